/- Lemmas of the proof, with their conditions. -/
import Derived.Test.YtkonbpfbjiepfaaGreatT07
import Derived.Test.YtkonbpfbjiepfaaGreatT08
namespace Go.Proofs.YtkonbpfbjiepfaaGreat
set_option linter.unusedSimpArgs false
set_option linter.unusedVariables false
set_option maxHeartbeats 4000000
set_option maxRecDepth 20000
section
open Go.RowKit
structure PItem where
 k:Nat
 b:Nat
 c:Nat
 v:Nat
def itc (i:PItem):List Value:=[.int .i64 i.k,.int .i64 i.b,.int .i64 i.c,.int .i64 i.v]
theorem JK (i:PItem):(itc i).length=4:=rfl
def PItem.May (i:PItem):Prop:=
 ((i.k=1∨i.k=5)∧i.b≤63∧i.c=0∧i.v=0)∨((i.k=2∨i.k=6)∧i.b≤63∧1≤i.c∧i.c+i.b≤64∧i.v=0)∨(i.k=3∧i.b=0∧i.c=0∧1≤i.v∧i.v≤2147483647) ∨
 (i.k=4∧i.b≤63∧i.c=0∧1≤i.v∧i.v≤4095)∨(i.k=7∧i.b=0∧i.c=0∧i.v≤31)
def PItem.loaded (i:PItem):Bool:=i.k == 1 || i.k == 4 || i.k == 5
theorem PItem.May.bounds {i:PItem} (h:i.May):i.k≤7∧i.b≤63∧i.c≤64∧i.v≤2147483647:=by
 rcases h with⟨h | h,_⟩ | ⟨h | h,_⟩ | ⟨h,_⟩ | ⟨h,_⟩ | ⟨h,_⟩ <;> omega
theorem VAM (n lo hi:Int) (w:World):Calls Tryz.prog 200 #[.int .i64 n,.int .i64 lo,.int .i64 hi] w fun e w'=>e=.returned (.bool (decide (lo≤n∧n≤hi)))∧w=w':=by
 by_cases h1:lo≤n
 · by_cases h2:n≤hi
   all_goals
    go_enter Tryz.func200,Tryz.ntmps200
    go_wp2
    go_ret;exact⟨by simp[h1,h2],rfl⟩
 · go_enter Tryz.func200,Tryz.ntmps200
   go_wp2
   go_ret;exact⟨by simp;omega,rfl⟩
theorem Vu (i:PItem) (h:i.May) (w:World):Calls Tryz.prog 113 #[.agg (itc i).toArray] w fun e w'=>e=.returned (.bool true)∧Keep [] w w':=by
 obtain⟨k,b,c,v⟩:=i;simp only[itc];have hW:=fun n lo hi W (h:lo≤n∧n≤hi)=>(by have:=VAM n lo hi W;rwa [decide_eq_true h] at this:Calls Tryz.prog 200 #[.int .i64 n,.int .i64 lo,.int .i64 hi] W fun e w'=>e=.returned (.bool true)∧W=w');have hBk:=Blk.new w 111 #[.int .i64 k,.int .i64 b,.int .i64 c,.int .i64 v];rcases h with⟨h | h,h1,h2,h3⟩ | ⟨h | h,h1,h2,h3,h4⟩ | ⟨h,h1,h2,h3,h4⟩ | ⟨h,h1,h2,h3,h4⟩ | ⟨h,h1,h2,h3⟩
 all_goals
  simp only at h h1 h2 h3
  try simp only at h4
  subst h
  try subst h2
  try subst h3
  try subst h4
  try subst h1
  go_enter Tryz.func113,Tryz.ntmps113
  go_wp2_with (go_at_call 200;refine(hW _ _ _ _ ⟨by omega,by omega⟩).mono ?_;rintro e w' ⟨rfl,rfl⟩)
  go_ret;exact⟨rfl,(Keep.refl _ _).alloc _⟩
theorem XAP (i:PItem) (h:i.May) (w:World):Calls Tryz.prog 112 #[.agg (itc i).toArray] w fun e w'=>e=.returned (.bool i.loaded)∧Keep [] w w':=by
 have hM:=fun W=>Vu i h W;obtain⟨k,b,c,v⟩:=i;simp only[itc] at hM ⊢;have hb:=h.bounds.1;simp only at hb;have hk:k=1∨k=2∨k=3∨k=4∨k=5∨k=6∨k=7:=by rcases h with⟨h | h,_⟩ | ⟨h | h,_⟩ | ⟨h,_⟩ | ⟨h,_⟩ | ⟨h,_⟩ <;> simp only at h <;> omega
 clear h hb;have hbl:=fun(w1:World) (hk:Keep [] (w.alloc (.cells #[.int .i64 k,.int .i64 b,.int .i64 c,.int .i64 v] 111)) w1)=>(Blk.new w 111 #[.int .i64 k,.int .i64 b,.int .i64 c,.int .i64 v]).keep0 hk;rcases hk with rfl | rfl | rfl | rfl | rfl | rfl | rfl
 all_goals
  go_enter Tryz.func112,Tryz.ntmps112
  go_wp2_with (refine(hM _).mono ?_;clear hM;rintro e w1 ⟨rfl,hk1⟩;have hc0:=(hbl _ hk1).cell 0;simp at hc0)
  go_ret;exact⟨rfl,((Keep.refl _ _).alloc _).trans0 hk1⟩
end
section
open Go.RowKit
def KAJ (N:Nat) (H:List UInt8):List UInt8:=laid (laid (List.replicate N 0) 0 H) (N-4) (le 4 (QS ((laid (List.replicate N 0) 0 H).take (N-4))))
theorem Yr (N:Nat) (H:List UInt8) (h4:4≤N) (h:H.length≤N):(KAJ N H).length=N:=by
 unfold KAJ;rw[VD _ _ _ (by rw[length_le,VS _ _ h];omega),VS _ _ h]
theorem ZAo {w1 W0:World} {r N:Nat} {v:Value} {H:List UInt8} {u:Value} (hu:W0.ownsRow w1.heap.size 5 1 u N (bys (laid (List.replicate N 0) 0 H))) (h4:4≤N) (hn:N≤65536) (h:H.length≤N) :
 Calls Tryz.prog 262 #[u] W0 fun e w'=>e=.returned u∧w'.ownsRow w1.heap.size 5 1 u N (bys (KAJ N H))∧Keep u.ownBlock.toList W0 w':=by
 have hl:=VS N H h;have:=Zu w1.heap.size u (laid (List.replicate N 0) 0 H) W0 (by rw[hl];exact hu) (by omega) (by omega);rw[hl] at this;exact this
theorem VR (n lo hi:Int) (w:World) (h:lo≤n∧n≤hi):Calls Tryz.prog 380 #[.int .i64 n,.int .i64 lo,.int .i64 hi] w fun e w'=>e=.returned (.bool true)∧w=w':=by
 obtain⟨h1,h2⟩:=h
 go_enter Tryz.func380,Tryz.ntmps380
 go_wp2
 go_ret;exact⟨rfl,rfl⟩
def YAk (seg mount lsn prev:Nat):List UInt8:=([]++[75,72,seg].flatMap (le 1))++[mount,lsn,prev].flatMap (le 4)
theorem XV (seg mount lsn prev:Nat):(YAk seg mount lsn prev).length=15:=by simp[YAk,QF]
theorem JAm (seg mount lsn prev:Nat) (h1:seg≤31) (h2:1≤mount∧mount≤2147483647) (h3:1≤lsn∧lsn≤2147483647) (h4:prev≤4294967295) (w:World) :
 Calls Tryz.prog 338 #[.agg #[.int .i64 seg,.int .i64 mount,.int .i64 lsn,.int .i64 prev]] w fun e w'=>e=.returned (.bool true)∧Keep [] w w':=by
 have hT1:=fun W=>VR seg 0 31 W ⟨by omega,by omega⟩;have hT2:=fun W=>VR mount 1 2147483647 W ⟨by omega,by omega⟩;have hT3:=fun W=>VR lsn 1 2147483647 W ⟨by omega,by omega⟩;have hT4:=fun W=>VR prev 0 4294967295 W ⟨by omega,by omega⟩
 go_enter Tryz.func338,Tryz.ntmps338
 go_wp2_with (first | (refine(hT1 _).mono ?_;clear hT1;rintro e w' ⟨rfl,rfl⟩) | (refine(hT2 _).mono ?_;clear hT2;rintro e w' ⟨rfl,rfl⟩) | (refine(hT3 _).mono ?_;clear hT3;rintro e w' ⟨rfl,rfl⟩) | (refine(hT4 _).mono ?_;clear hT4;rintro e w' ⟨rfl,rfl⟩))
 go_ret;exact⟨rfl,(Keep.refl _ _).alloc _⟩
theorem YF {w:World} {g:Nat} {t:TypeId} {x0 x1 x2 x3:Value} (h:Blk w g t #[x0,x1,x2,x3]) :
 w.cell? ⟨g,0,none⟩=some x0∧w.cell? ⟨g,1,none⟩=some x1∧w.cell? ⟨g,2,none⟩=some x2∧w.cell? ⟨g,3,none⟩=some x3:=
 ⟨by simpa using h.cell 0,by simpa using h.cell 1,by simpa using h.cell 2,by simpa using h.cell 3⟩
theorem QAo (seg mount lsn prev:Nat) (h1:seg≤31) (h2:1≤mount∧mount≤2147483647) (h3:1≤lsn∧lsn≤2147483647) (h4:prev≤4294967295) (w:World) :
 Calls Tryz.prog 284 #[.agg #[.int .i64 seg,.int .i64 mount,.int .i64 lsn,.int .i64 prev]] w fun e w'=>∃ u,e=.returned (.tuple #[u,.int .i64 0])∧w'.ownsRow w.heap.size 5 1 u 64 (bys (KAJ 64 (YAk seg mount lsn prev)))∧Keep [] w w':=by
 have hT:=fun W=>JAm seg mount lsn prev h1 h2 h3 h4 W;have hbl:=Blk.new w 376 #[.int .i64 seg,.int .i64 mount,.int .i64 lsn,.int .i64 prev]
 go_enter Tryz.func284,Tryz.ntmps284
 go_wp2_with (
  (refine(hT _).mono ?_)
  rintro r w1 ⟨rfl,hk1⟩;clear hT;have hB1:=hbl.keep0 hk1;obtain⟨c0,c1,c2,c3⟩:=YF hB1;have hlt:=hB1.lt)
 have hN:=JAD 64 (by omega) w1
 go_wp2_with (
  (refine hN.mono ?_)
  rintro r w2 ⟨g,u,rfl,hR0,hK⟩;clear hN;have hB2:=hB1.keep0 hK;clear c0 c1 c2 c3;obtain⟨c0,c1,c2,c3⟩:=YF hB2;have hlt2:=hB2.lt)
 have hR:RowAt w2 w1.heap.size g u (laid (List.replicate 64 0) 0 []) ([]:List UInt8).length:=by rw[laid_nil];exact hR0
 clear hR0;have hP:=QAe (k:=1) hK hR (by omega) [75,72,seg] (by simp;omega) (by simp) (by simp[QF]) #[.int .i64 75,.int .i64 72,.int .i64 seg] rfl 3 rfl
 go_wp2_with (
  (refine hP.mono ?_)
  clear hP;rintro r w3 ⟨rfl,hR3,hK3⟩;clear hR hK hB2 c0 c1 c2 c3 hlt2;have hB2:=hB1.keep0 hK3;obtain⟨c0,c1,c2,c3⟩:=YF hB2;have hlt2:=hB2.lt;have hR:=hR3;have hK:=hK3;clear hR3 hK3)
 have hP:=QAe (k:=4) hK hR (by omega) [mount,lsn,prev] (by simp;omega) (by simp) (by simp[QF]) #[.int .i64 mount,.int .i64 lsn,.int .i64 prev] rfl 3 rfl
 go_wp2_with (
  (refine hP.mono ?_)
  clear hP;rintro r w3 ⟨rfl,hR3,hK3⟩;clear hR hK hB2 c0 c1 c2 c3 hlt2;have hBy:=Qm w3 _ _ _ _ _ hR3)
 rw[show ([]++[75,72,seg].flatMap (le 1))++[mount,lsn,prev].flatMap (le 4)=YAk seg mount lsn prev from rfl,VS _ _ (by rw[XV];omega)] at hBy
 go_wp2_with (
  (refine hBy.mono ?_)
  clear hBy;rintro r w4 ⟨u4,rfl,hu4,hk4⟩;have hSe:=ZAo (w1:=w3) (r:=0) (v:=u4) hu4 (by omega) (by omega) (by rw[XV];omega))
 go_wp2_with (
  (refine hSe.mono ?_)
  clear hSe;rintro r w5 ⟨rfl,hu5,hk5⟩)
 go_ret2;have hkA:Keep [] w w3:=(((Keep.refl _ _).alloc _).trans0 hk1).trans0 hK3;refine⟨u4,rfl,KB hu5 hkA.size,(hkA.trans0 hk4).trans hk5 (fun x hx=>.inr ?_)⟩;exact Nat.le_trans hkA.size (own_mem hu4 hx).1
end
section
open Go.RowKit
def RowX (w:World) (base r:Nat) (v:Value) (N a:Nat):Prop:=∃ bs,bs.length=N∧RowAt w base r v bs a
theorem RowX.keep0 {w w':World} {base r N a:Nat} {v:Value} (h:RowX w base r v N a) (hk:Keep [] w w'):RowX w' base r v N a:=by
 obtain⟨bs,h1,h2⟩:=h;exact⟨bs,h1,h2.keep0 hk⟩
theorem RowX.fresh {w:World} {base r N a:Nat} {v:Value} (h:RowX w base r v N a):∀ x∈r :: v.ownBlock.toList,base≤x:=by
 obtain⟨bs,h1,h2⟩:=h;exact h2.fresh
theorem RowX.blk {w w':World} {base r N a g:Nat} {v:Value} {t:TypeId} {cs:Array Value} (h:RowX w base r v N a) (hk:Keep (r :: v.ownBlock.toList) w w') (hB:Blk w g t cs) (h1:t≠397) (h2:5≠t):Blk w' g t cs:=by
 obtain⟨bs,_,h⟩:=h;refine hB.keep hk (fun hm=>?_);rcases List.mem_cons.1 hm with rfl | hm
 · exact Blk.ne_ (t:=t) hB h.blk h1 rfl
 · exact own_blk_ne h.own hB h2 (by simpa using hm)
theorem KBC (n:Nat) (hn:n≤65536) (w:World) :
 Calls Tryz.prog 260 #[.int .i64 (n:Nat)] w fun e w'=>∃ r v,e=.returned (.pointer (some ⟨r,0,none⟩))∧RowX w' w.heap.size r v n 0∧Keep [] w w':=by
 refine(JAD n hn w).mono ?_;rintro e w' ⟨r,v,rfl,h,hk⟩;exact⟨r,v,rfl,⟨_,by simp,h⟩,hk⟩
theorem Zw {W0:World} {base r k N a:Nat} {v:Value} (hR:RowX W0 base r v N a) (hk:k=1∨k=2∨k=4) (zs:List Nat) (hz:∀ z∈zs,z<256 ^ k) (hm0:0<zs.length) (hm:a+k*zs.length≤N)
 (cs:Array Value) (hcs:cs.toList=QH zs) (m:Nat) (hml:m=zs.length) :
 Calls Tryz.prog 261 #[.pointer (some ⟨r,0,none⟩),.int .i64 (k:Nat),.slice (some ⟨W0.heap.size,0,none⟩) m m] (W0.alloc (.cells cs 3)) fun e w'=>e=.returned (.bool true) ∧
  RowX w' base r v N (a+k*m)∧Keep (r :: v.ownBlock.toList) W0 w':=by
 subst hml;obtain⟨bs,h1,h2⟩:=hR;have hRA:RowAt (W0.alloc (.cells cs 3)) base r v bs a:=h2.keep0 ((Keep.refl _ _).alloc _)
 have hrd:Rd (W0.alloc (.cells cs 3)) (some ⟨W0.heap.size,0,none⟩) zs.length (QH zs):=by
  have hl:cs.toList.length=zs.length:=by rw[hcs,length_nats]
  have:=Rd.of_blk (n:=zs.length) (Blk.new W0 3 cs) (by simpa using Nat.le_of_eq hl.symm);rw[hcs,List.take_of_length_le (by simp)] at this;exact this
 refine(XAG _ base r a k v bs hRA hk _ zs.length zs.length zs hrd (fun p hp=>?_) hz hm0 (by omega)).mono ?_
 · cases hp
   intro hx;rcases List.mem_cons.1 hx with e | hx
   · exact absurd (show W0.heap.size=r from e) (Nat.ne_of_gt h2.blk.lt)
   · exact absurd (own_mem h2.own hx).2 (Nat.lt_irrefl _)
 · rintro e w' ⟨rfl,h3,h4⟩
   refine⟨rfl,⟨_,?_,h3⟩,((Keep.refl _ _).alloc _).trans h4 (fun x hx=>.inl hx)⟩;rw[VD _ _ _ (by rw[QF];omega)];exact h1
theorem QBG {W0:World} {base r N a:Nat} {v:Value} (hR:RowX W0 base r v N a) (S:Option Addr) (m sc:Nat) (ys:List UInt8) (hr:Rd W0 S m (bys ys)) (hm:a+m≤N) :
 Calls Tryz.prog 307 #[.pointer (some ⟨r,0,none⟩),.slice S m sc] W0 fun e w'=>e=.returned (.bool true)∧RowX w' base r v N (a+m)∧Keep (r :: v.ownBlock.toList) W0 w':=by
 obtain⟨bs,h1,h2⟩:=hR;have hl:ys.length=m:=by simpa using hr.1
 refine(JAw _ _ r _ v _ h2 S m sc ys hr (by omega)).mono ?_;rintro e w' ⟨rfl,h3,h4⟩;refine⟨rfl,⟨_,?_,h3⟩,h4⟩;rw[VD _ _ _ (by omega)];exact h1
theorem YBE {W0:World} {base r N a m:Nat} {v:Value} (hR:RowX W0 base r v N a) (hm:a+m≤N) :
 Calls Tryz.prog 225 #[.pointer (some ⟨r,0,none⟩),.int .i64 (m:Nat)] W0 fun e w'=>∃ u,e=.returned (.tuple #[u,.bool true])∧RowX w' base r v N (a+m)∧Keep (r :: v.ownBlock.toList) W0 w':=by
 obtain⟨bs,h1,h2⟩:=hR;refine(JX _ _ r _ m v _ h2 (by omega)).mono ?_;rintro e w' ⟨u,rfl,h3,h4,h5⟩;exact⟨u,rfl,⟨bs,h1,h4⟩,h5.sub (by simp)⟩
theorem Zq {W0:World} {base r N a:Nat} {v:Value} (hR:RowX W0 base r v N a) :
 Calls Tryz.prog 263 #[.pointer (some ⟨r,0,none⟩)] W0 fun e w'=>∃ u bs,e=.returned u∧bs.length=N∧w'.ownsRow W0.heap.size 5 1 u N (bys bs)∧Keep [] W0 w':=by
 obtain⟨bs,h1,h2⟩:=hR;refine(Qm _ _ r _ v _ h2).mono ?_;rintro e w' ⟨u,rfl,h3,h4⟩;exact⟨u,bs,rfl,h1,by rw[← h1];exact h3,h4⟩
theorem YAw {W0:World} {base N:Nat} {u:Value} {bs:List UInt8} (hl:bs.length=N) (hu:W0.ownsRow base 5 1 u N (bys bs)) (h4:4≤N) (hn:N≤65536) :
 Calls Tryz.prog 262 #[u] W0 fun e w'=>∃ cs,e=.returned u∧cs.length=N∧w'.ownsRow base 5 1 u N (bys cs)∧Keep u.ownBlock.toList W0 w':=by
 subst hl;refine(Zu base u bs W0 hu h4 (by omega)).mono ?_;rintro e w' ⟨rfl,h3,h5⟩;refine⟨_,rfl,?_,h3,h5⟩;simpa using h3.1
theorem KH {α:Type} {f:α→List Value} {s:Nat} (hf:∀ x,(f x).length=s) {w:World} {g n:Nat} {xs:List α} (h:Rd w (some ⟨g,0,none⟩) (n*s) (xs.flatMap f)) {i j:Nat} (hi:i<xs.length) (hj:j<s) :
 g<w.heap.size∧w.cell? ⟨g,i*s+j,none⟩=(f xs[i])[j]? := by
 have hx:=YH hf xs i j hi hj;have hfl:j<(f xs[i]).length:=by rw[hf xs[i]];exact hj
 obtain⟨u,hu⟩:∃ u,(f xs[i])[j]? = some u:=⟨_,List.getElem?_eq_getElem hfl⟩;rw[hu] at hx ⊢
 have hn:0<n*s:=by
  have:=(List.getElem?_eq_some_iff.1 hx).1;rw[h.1] at this;omega
 obtain⟨b,o,he,hb,hc⟩:=h.2 hn;cases he;exact⟨hb,by simpa using hc _ _ hx⟩
end
section
open Go.RowKit
theorem KAn (g n c:Nat) (is:List PItem) (w:World) (ha:Rd w (some ⟨g,0,none⟩) (n*4) (is.flatMap itc)) (hl:is.length=n) (hm:∀ i∈is,i.May) (h6:n≤6) :
 Calls Tryz.prog 340 #[.slice (some ⟨g,0,none⟩) n c] w fun e w'=>∃ u bs,e=.returned (.tuple #[u,.int .i64 0])∧bs.length=7*n∧w'.ownsRow w.heap.size 5 1 u (7*n) (bys bs)∧Keep [] w w':=by
 have HL:=XC hl;clear hl;have h6I:((n:Nat):Int)≤6:=by omega
 obtain⟨N,hN7⟩:∃ N,N=7*n:=⟨_,rfl⟩;have hN:=KBC N (by omega) w;have hw7:IntKind.i64.wrap (7*(n:Nat):Int)=(N:Nat):=by rw[IntKind.wrap_i64];omega
 rw[← hN7];have HN:=XC hN7;clear hN7
 go_enter Tryz.func340,Tryz.ntmps340
 go_wp2_with (refine hN.mono ?_;clear hN;rintro e w1 ⟨r,rv,rfl,hR,hK⟩)
 go_loopw [6,16] (fun _ i wr=>∃ k:Nat,k≤n∧i=.int .i64 k∧RowX wr w.heap.size r rv N (7*k)∧Keep [] w wr) (fun _ i _=>n-(intOf i).toNat)
 case atStart=>exact⟨0,Nat.zero_le _,rfl,hR,hK⟩
 case round=>
  clear hR hK;obtain⟨k,hk,rfl,hR,hK⟩:=hrel
  by_cases hlt:k<n
  · have hkl:k<is.length:=by rw[JA HL];exact hlt
    have hltI:((k:Nat):Int)<(n:Nat):=by omega
    have hgl:g<wr.heap.size:=(KH JK (ha.keep hK) hkl (j:=0) (by omega)).1;have c0:=(KH JK (ha.keep hK) hkl (j:=0) (by omega)).2;have c1:=(KH JK (ha.keep hK) hkl (j:=1) (by omega)).2;have c2:=(KH JK (ha.keep hK) hkl (j:=2) (by omega)).2;have c3:=(KH JK (ha.keep hK) hkl (j:=3) (by omega)).2;have hmi:=hm _ (List.getElem_mem hkl);have hT:=fun W=>Vu _ hmi W;have hbd:=hmi.bounds;generalize is[k]=it at *;obtain⟨ik,ib,ic,iv⟩:=it;simp only[itc,List.getElem?_cons_zero,List.getElem?_cons_succ,Nat.add_zero] at c0 c1 c2 c3 hbd hT;clear hmi;obtain⟨b1,b2,b3,b4⟩:=hbd;have hBk:=Blk.new wr 111 #[.int .i64 ik,.int .i64 ib,.int .i64 ic,.int .i64 iv]
    go_wp2_with fail
    refine(hT _).mono ?_;rintro e w2 ⟨rfl,hk2⟩;clear hT;have hB1:=hBk.keep0 hk2;clear hBk;obtain⟨d0,d1,d2,d3⟩:=YF hB1;have hlt2:=hB1.lt
    go_wp2_with fail
    have hR:=(hR.keep0 ((Keep.refl _ _).alloc (.cells #[.int .i64 ik,.int .i64 ib,.int .i64 ic,.int .i64 iv] 111))).keep0 hk2;have hP:=Zw (k:=1) hR (by omega) [ik,ib,ic] (by simp;omega) (by simp) (by have:=JA HN;simp;omega) #[.int .i64 ik,.int .i64 ib,.int .i64 ic] rfl 3 rfl;have hKa:=(hK.alloc (.cells #[.int .i64 ik,.int .i64 ib,.int .i64 ic,.int .i64 iv] 111)).trans0 hk2;clear hK
    go_wp2_with (
     (refine hP.mono ?_)
     clear hP;rintro e w3 ⟨rfl,hR3,hK3⟩;have hB3:=hR.blk hK3 hB1 (by decide) (by decide);clear hk2 d0 d1 d2 d3 hlt2 hB1;obtain⟨d0,d1,d2,d3⟩:=YF hB3;have hlt2:=hB3.lt)
    have hK3':=hKa.trans hK3 (fun x hx=>.inr (hR.fresh x hx));have hP:=Zw (k:=4) hR3 (by omega) [iv] (by simp;omega) (by simp) (by have:=JA HN;simp;omega) #[.int .i64 iv] rfl 1 rfl
    go_wp2_with (
     (refine hP.mono ?_)
     clear hP;rintro e w4 ⟨rfl,hR4,hK4⟩)
    go_roundw
    case rel=>exact⟨k+1,by omega,by go_num,hR4,hK3'.trans hK4 (fun x hx=>.inr (hR3.fresh x hx))⟩
    case measure=>simp[intOf];omega
  · obtain rfl:n=k:=by omega
    go_wp2_with (refine(Zq hR).mono ?_;rintro e w2 ⟨u,bs,rfl,hl2,hu,hk2⟩)
    go_ret2;exact⟨u,bs,rfl,hl2,KB hu hK.size,hK.trans0 hk2⟩
end
section
open Go.RowKit
theorem QAm (A:Option Addr) (c:Nat) (w:World):Calls Tryz.prog 383 #[.slice A 64 c] w fun e w'=>e=.returned (.bool false)∧w=w':=by
 go_enter Tryz.func383,Tryz.ntmps383
 go_wp2
 go_ret;exact⟨rfl,rfl⟩
theorem JAC (A:Option Addr) (n c:Nat) (ls:List (Value×List UInt8)) (w:World) (ha:Rws w A n ls) (h:∀ p∈ls,p.2.length=64) (hn:n≤1000000) :
 Calls Tryz.prog 407 #[.slice A n c,.func (.func 383) #[] #[]] w fun e w'=>e=.returned (.int .i64 (-1))∧Keep [] w w':=by
 have HL:=XC ha.len
 go_enter Tryz.func407,Tryz.ntmps407
 go_wp2_with fail
 go_loopw [5,8] (fun _ i wr=>∃ k:Nat,k≤n∧i=.int .i64 k∧Keep [] w wr) (fun _ i _=>n-(intOf i).toNat)
 case atStart=>exact⟨0,Nat.zero_le _,rfl,Keep.refl _ _⟩
 case round=>
  obtain⟨k,hk,rfl,hkr⟩:=hrel
  by_cases hlt:k<n
  · have hkl:k<ls.length:=by rw[JA HL];exact hlt
    have hltI:((k:Nat):Int)<(n:Nat):=by omega
    obtain⟨b,o,rfl,hb,hc,hr⟩:=(ha.keep hkr).at_ hlt hkl;have h64:=h _ (List.getElem_mem hkl);generalize ls[k]=p at *;obtain⟨pv,pb⟩:=p;obtain⟨PA,pn,pc,hpv,h1,h2,h3⟩:=hr;simp only at hpv;subst hpv;have hpl:pb.length=pn:=by simpa using h3.1
    obtain rfl:64=pn:=by rw[← hpl];exact h64.symm
    clear hpl h64
    go_wp2_with (refine(QAm _ _ _).mono ?_;rintro e w' ⟨rfl,rfl⟩)
    go_roundw
    case rel=>exact⟨k+1,by omega,by go_num,hkr⟩
    case measure=>simp[intOf];omega
  · obtain rfl:n=k:=by omega
    go_wp2
    go_ret;exact⟨rfl,hkr⟩
theorem Yx (A:Option Addr) (n c:Nat) (ls:List (Value×List UInt8)) (w:World) (ha:Rws w A n ls) (h:∀ p∈ls,p.2.length=64) (hn:n≤1000000) :
 Calls Tryz.prog 382 #[.slice A n c,.func (.func 383) #[] #[]] w fun e w'=>e=.returned (.bool false)∧Keep [] w w':=by
 have hT:=JAC A n c ls w ha h hn
 go_enter Tryz.func382,Tryz.ntmps382
 go_wp2_with (refine hT.mono ?_;clear hT;rintro e w' ⟨rfl,hk⟩)
 go_ret;exact⟨rfl,hk⟩
theorem XY (n lo hi:Int) (w:World) (h:lo≤n∧n≤hi):Calls Tryz.prog 381 #[.int .i64 n,.int .i64 lo,.int .i64 hi] w fun e w'=>e=.returned (.bool true)∧w=w':=by
 obtain⟨h1,h2⟩:=h
 go_enter Tryz.func381,Tryz.ntmps381
 go_wp2
 go_ret;exact⟨rfl,rfl⟩
def JR (is:List PItem):Nat:=(is.filter (·.loaded)).length
theorem Zg (is:List PItem) (i:PItem):JR (is++[i])=JR is+if i.loaded then 1 else 0:=by
 unfold JR;rw[List.filter_append,List.length_append];cases h:i.loaded <;> simp[h]
theorem XO (is:List PItem):JR is≤is.length:=List.length_filter_le _ _
theorem XI {w:World} {g:Nat} {t:TypeId} {x0 x1 x2 x3 x4:Value} (h:Blk w g t #[x0,x1,x2,x3,x4]) :
 w.cell? ⟨g,0,none⟩=some x0∧w.cell? ⟨g,1,none⟩=some x1∧w.cell? ⟨g,2,none⟩=some x2∧w.cell? ⟨g,3,none⟩=some x3∧w.cell? ⟨g,4,none⟩=some x4:=
 ⟨by simpa using h.cell 0,by simpa using h.cell 1,by simpa using h.cell 2,by simpa using h.cell 3,by simpa using h.cell 4⟩
theorem JAS (mount lsn prev:Nat) (h2:1≤mount∧mount≤2147483647) (h3:1≤lsn∧lsn≤2147483647) (h4:prev≤4294967295) (g n c:Nat) (is:List PItem) (A:Option Addr) (m bc:Nat) (ls:List (Value×List UInt8)) (w:World)
 (ha:Rd w (some ⟨g,0,none⟩) (n*4) (is.flatMap itc)) (hl:is.length=n) (hm:∀ i∈is,i.May) (h1:1≤n) (h6:n≤6) (hb:Rws w A m ls) (h64:∀ p∈ls,p.2.length=64) (hlo:m=JR is) :
 Calls Tryz.prog 339 #[.agg #[.int .i64 mount,.int .i64 lsn,.int .i64 prev,.slice (some ⟨g,0,none⟩) n c,.slice A m bc]] w fun e w'=>e=.returned (.bool true)∧Keep [] w w':=by
 have hm6:m≤6:=by have:=XO is;omega
 have hT1:=fun W=>XY mount 1 2147483647 W ⟨by omega,by omega⟩;have hT2:=fun W=>XY lsn 1 2147483647 W ⟨by omega,by omega⟩;have hT3:=fun W=>XY prev 0 4294967295 W ⟨by omega,by omega⟩;have hT4:=fun W=>XY n 1 6 W ⟨by omega,by omega⟩;obtain⟨sf,hsf⟩:∃ sf:Nat→Nat,∀ k,sf k=JR (is.take k):=⟨_,fun _=>rfl⟩;have hs0:sf 0=0:=by rw[hsf];simp[JR]
 have hsn:sf n=m:=by rw[hsf,List.take_of_length_le (by omega),hlo]
 have hss:∀ k (hk:k<is.length),sf (k+1)=sf k+if is[k].loaded then 1 else 0:=fun k hk=>by rw[hsf,hsf,List.take_succ_eq_append_getElem hk,Zg]
 have hsle:∀ k,k≤n→sf k≤6:=fun k hk=>by rw[hsf];have:=XO (is.take k);rw[List.length_take] at this;omega
 have HSS:=XC hss;have HSN:=XC hsn;have HL:=XC hl;clear hss hsn hsf hlo hl;have hBk:=Blk.new w 306 #[.int .i64 mount,.int .i64 lsn,.int .i64 prev,.slice (some ⟨g,0,none⟩) n c,.slice A m bc]
 go_enter Tryz.func339,Tryz.ntmps339
 go_wp2_with (first | (refine(hT1 _).mono ?_;clear hT1;rintro e w' ⟨rfl,rfl⟩) | (refine(hT2 _).mono ?_;clear hT2;rintro e w' ⟨rfl,rfl⟩) | (refine(hT3 _).mono ?_;clear hT3;rintro e w' ⟨rfl,rfl⟩) | (refine(hT4 _).mono ?_;clear hT4;rintro e w' ⟨rfl,rfl⟩))
 obtain⟨w1,hw1⟩:∃ w1,w1=w.alloc (.cells #[.int .i64 mount,.int .i64 lsn,.int .i64 prev,.slice (some ⟨g,0,none⟩) n c,.slice A m bc] 306):=⟨_,rfl⟩;have hk1:Keep [] w w1:=by rw[hw1];exact(Keep.refl _ _).alloc _
 rw[← hw1] at hBk ⊢;clear hw1
 go_loopw [3,5,32] (fun z _ i wr=>∃ k:Nat,k≤n∧i=.int .i64 k∧z=.int .i64 (sf k:Nat)∧Keep [] w wr∧Blk wr w.heap.size 306 #[.int .i64 mount,.int .i64 lsn,.int .i64 prev,.slice (some ⟨g,0,none⟩) n c,.slice A m bc]) (fun _ _ i _=>n-(intOf i).toNat)
 case atStart=>exact⟨0,Nat.zero_le _,rfl,by rw[hs0];rfl,hk1,hBk⟩
 case round=>
  clear hk1 hBk hs0;obtain⟨k,hk,rfl,rfl,hK,hBk⟩:=hrel
  by_cases hlt:k<n
  · have hkl:k<is.length:=by rw[JA HL];exact hlt
    have hltI:((k:Nat):Int)<(n:Nat):=by omega
    have hgl:g<wr.heap.size:=(KH JK (ha.keep hK) hkl (j:=0) (by omega)).1;have c0:=(KH JK (ha.keep hK) hkl (j:=0) (by omega)).2;have c1:=(KH JK (ha.keep hK) hkl (j:=1) (by omega)).2;have c2:=(KH JK (ha.keep hK) hkl (j:=2) (by omega)).2;have c3:=(KH JK (ha.keep hK) hkl (j:=3) (by omega)).2;have hmi:=hm _ (List.getElem_mem hkl);have hT:=fun W=>Vu _ hmi W;have hTl:=fun W=>XAP _ hmi W;have HS:=XC (JA HSS k hkl);have hq6:=hsle k hk;clear hsle;generalize is[k]=it at *;generalize hq2:sf (k+1)=q2 at *;generalize hq:sf k=q at *;obtain⟨ik,ib,ic,iv⟩:=it;generalize hlb:PItem.loaded ⟨ik,ib,ic,iv⟩=lb at *;simp only[itc,List.getElem?_cons_zero,List.getElem?_cons_succ,Nat.add_zero] at c0 c1 c2 c3 hT hTl;clear hmi hlb hq;have hBi:=Blk.new wr 111 #[.int .i64 ik,.int .i64 ib,.int .i64 ic,.int .i64 iv];cases lb
    all_goals
     go_wp2_with (
      (refine(hT _).mono ?_)
      rintro e w2 ⟨rfl,hk2⟩;clear hT;have hB1:=hBi.keep0 hk2;clear hBi;obtain⟨d0,d1,d2,d3⟩:=YF hB1;have hlt2:=hB1.lt)
     go_wp2_with (
      (refine(hTl _).mono ?_)
      rintro e w3 ⟨rfl,hk3⟩;clear hTl)
     have hK3:Keep [] wr w3:=(((Keep.refl _ _).alloc _).trans0 hk2).trans0 hk3
     go_roundw
     case rel=>exact⟨k+1,by omega,by go_num,by rw[hq2,JA HS];simp,hK.trans0 hK3,hBk.keep0 hK3⟩
     case measure=>simp[intOf];omega
  · obtain rfl:n=k:=by omega
    rw[JA HSN];clear hsle;have hTc:=fun(W:World) (hk:Keep [] wr W)=>Yx A m bc ls W (hb.keep (hK.trans0 hk)) h64 (by omega);obtain⟨c0,c1,c2,c3,c4⟩:=XI hBk
    go_wp2_with (refine(hTc _ ?_).mono ?_;rotate_left;rintro e w' ⟨rfl,hk2⟩;rotate_right;exact Keep.refl _ _)
    go_ret;exact⟨rfl,hK.trans0 hk2⟩
end
section
open Go.RowKit
theorem Vz (w:World):Calls Tryz.prog 101 #[.agg #[.int .i64 0,.int .i64 0,.int .i64 0]] w fun e w'=>e=.returned (.tuple #[.pointer none,.int .i64 1])∧Keep [] w w':=by
 have hT1:=fun W=>YG 0 1 64 W;rw[decide_eq_false (by omega)] at hT1
 go_enter Tryz.func101,Tryz.ntmps101
 go_wp2_with (first | (refine(hT1 _).mono ?_;clear hT1;rintro e w' ⟨rfl,rfl⟩))
 go_ret2;exact⟨rfl,(Keep.refl _ _).alloc _⟩
theorem YD {w:World} {g:Nat} {t:TypeId} {x0 x1 x2 x3 x4:Value} (h:Blk w g t #[x0,x1,x2,x3,x4]) :
 w.cell? ⟨g,0,none⟩=some x0∧w.cell? ⟨g,1,none⟩=some x1∧w.cell? ⟨g,2,none⟩=some x2∧w.cell? ⟨g,3,none⟩=some x3∧w.cell? ⟨g,4,none⟩=some x4:=
 ⟨by simpa using h.cell 0,by simpa using h.cell 1,by simpa using h.cell 2,by simpa using h.cell 3,by simpa using h.cell 4⟩
theorem Qp (B id mount:Nat) (h1:1≤B) (h2:B≤64) (h3:id≤2147483647) (h4:1≤mount∧mount≤2147483647) (w:World) :
 Calls Tryz.prog 259 #[.agg #[.int .i64 B,.int .i64 8,.int .i64 24,.int .i64 id,.int .i64 mount]] w fun e w'=>e=.returned (.bool true)∧Keep [] w w':=by
 have hG:=fun W=>Xf W B h1 h2;have hBk:=Blk.new w 258 #[.int .i64 B,.int .i64 8,.int .i64 24,.int .i64 id,.int .i64 mount];obtain⟨h5,h6⟩:=h4;have i1:((id:Nat):Int)≤2147483647:=by omega
 have i2:(1:Int)≤(mount:Nat):=by omega
 have i3:((mount:Nat):Int)≤2147483647:=by omega
 go_enter Tryz.func259,Tryz.ntmps259
 go_wp2_with (
  (refine(hG _).mono ?_)
  clear hG;rintro e w2 ⟨g,rfl,-,-,hk2⟩;have hB2:=hBk.keep0 hk2;obtain⟨c0,c1,c2,c3,c4⟩:=YD hB2;have hlt:=hB2.lt;clear hBk hB2)
 go_ret;exact⟨rfl,((Keep.refl _ _).alloc _).trans0 hk2⟩
theorem XAc (w:World) :
 Calls Tryz.prog 259 #[.agg #[.int .i64 0,.int .i64 0,.int .i64 0,.int .i64 0,.int .i64 0]] w fun e w'=>e=.returned (.bool false)∧Keep [] w w':=by
 have hG:=fun W=>Vz W
 go_enter Tryz.func259,Tryz.ntmps259
 go_wp2_with (
  (refine(hG _).mono ?_)
  clear hG;rintro e w2 ⟨rfl,hk2⟩)
 go_ret;exact⟨rfl,((Keep.refl _ _).alloc _).trans0 hk2⟩
theorem QAw (B id mount:Nat) (h1:1≤B) (h2:B≤64) (h3:id≤2147483647) (h4:1≤mount∧mount≤2147483647) (w:World) :
 Calls Tryz.prog 174 #[.agg #[.int .i64 B,.int .i64 8,.int .i64 24,.int .i64 id,.int .i64 mount]] w fun e w'=>∃ u bs,e=.returned (.tuple #[u,.int .i64 0])∧bs.length=64∧w'.ownsRow w.heap.size 5 1 u 64 (bys bs)∧Keep [] w w':=by
 have hM:=fun W=>Qp B id mount h1 h2 h3 h4 W;have hBk:=Blk.new w 258 #[.int .i64 B,.int .i64 8,.int .i64 24,.int .i64 id,.int .i64 mount]
 go_enter Tryz.func174,Tryz.ntmps174
 go_wp2_with (
  (refine(hM _).mono ?_)
  clear hM;rintro e w2 ⟨rfl,hk2⟩;have hB2:=hBk.keep0 hk2;clear hBk)
 have hkw:Keep [] w w2:=((Keep.refl _ _).alloc _).trans0 hk2;have hN:=KBC 64 (by omega) w2
 go_wp2_with (
  (refine hN.mono ?_)
  clear hN;rintro e w4 ⟨r,rv,rfl,hR,hK4⟩;have hB4:=hB2.keep0 hK4;obtain⟨c0,c1,c2,c3,c4⟩:=YD hB4;have hlt:=hB4.lt)
 have hP:=Zw (k:=1) hR (by omega) [75,83,B,8,24] (by simp;omega) (by simp) (by simp) #[.int .i64 75,.int .i64 83,.int .i64 B,.int .i64 8,.int .i64 24] rfl 5 rfl
 go_wp2_with (
  (refine hP.mono ?_)
  clear hP;rintro e w5 ⟨rfl,hR5,hK5⟩;have hK5':=hK4.trans hK5 (fun x hx=>.inr (hR.fresh x hx));clear c0 c1 c2 c3 c4 hlt hB4;have hB5:=hB2.keep0 hK5';obtain⟨c0,c1,c2,c3,c4⟩:=YD hB5;have hlt:=hB5.lt;clear hR hK5 hK4)
 have hP:=Zw (k:=4) hR5 (by omega) [id,mount] (by simp;omega) (by simp) (by simp) #[.int .i64 id,.int .i64 mount] rfl 2 rfl
 go_wp2_with (
  (refine hP.mono ?_)
  clear hP;rintro e w6 ⟨rfl,hR6,hK6⟩;have hK6':=hK5'.trans hK6 (fun x hx=>.inr (hR5.fresh x hx));clear c0 c1 c2 c3 c4 hlt)
 have hB:=Zq hR6
 go_wp2_with (refine hB.mono ?_;clear hB;rintro e w12 ⟨u,bs,rfl,hl2,hu,hk7⟩)
 have hS:=YAw hl2 hu (by omega) (by omega)
 go_wp2_with (refine hS.mono ?_;clear hS;rintro e w13 ⟨cs,rfl,hl3,hu3,hk3⟩)
 go_ret2;have hKw:=hkw.trans0 hK6';exact⟨u,cs,rfl,hl3,KB hu3 hKw.size,(hKw.trans0 hk7).trans hk3 (fun x hx=>.inr (Nat.le_trans hKw.size (own_mem hu hx).1))⟩
theorem XAv (w:World) :
 Calls Tryz.prog 174 #[.agg #[.int .i64 0,.int .i64 0,.int .i64 0,.int .i64 0,.int .i64 0]] w fun e w'=>e=.returned (.tuple #[.slice none 0 0,.int .i64 1])∧Keep [] w w':=by
 have hM:=fun W=>XAc W
 go_enter Tryz.func174,Tryz.ntmps174
 go_wp2_with (
  (refine(hM _).mono ?_)
  clear hM;rintro e w2 ⟨rfl,hk2⟩)
 go_ret2;exact⟨rfl,((Keep.refl _ _).alloc _).trans0 hk2⟩
theorem KAy {W0:World} {base r a k:Nat} {v:Value} (h:RowAt W0 base r v (List.replicate 64 0) a) (hk:k=1∨k=2∨k=4) (hm:a+k≤64) :
 Calls Tryz.prog 226 #[.pointer (some ⟨r,0,none⟩),.int .i64 (k:Nat)] W0 fun e w'=>e=.returned (.tuple #[.int .i64 0,.bool true])∧RowAt w' base r v (List.replicate 64 0) (a+k)∧Keep [r] W0 w':=by
 have:=QAc W0 base r a k v _ h hk (by simpa using hm);rw[List.drop_replicate,List.take_replicate,show min k (64-a)=k by omega] at this;have hz:num (List.replicate k (0:UInt8))=0:=by rcases hk with rfl | rfl | rfl <;> rfl
 rw[hz] at this;exact this
theorem Ym {w4:World} {base r a N:Nat} {v:Value} {bs:List UInt8} (j:Nat) (hj:j<5) (hR:RowAt w4 base r v bs a) (hB:Blk w4 N 258 #[.int .i64 0,.int .i64 0,.int .i64 0,.int .i64 0,.int .i64 0]) :
 RowAt (w4.setCell ⟨N,j,none⟩ (.int .i64 0)) base r v bs a∧Blk (w4.setCell ⟨N,j,none⟩ (.int .i64 0)) N 258 #[.int .i64 0,.int .i64 0,.int .i64 0,.int .i64 0,.int .i64 0]∧Keep [N] w4 (w4.setCell ⟨N,j,none⟩ (.int .i64 0)):=by
 have hk:Keep [N] w4 (w4.setCell ⟨N,j,none⟩ (.int .i64 0)):=(Keep.refl _ _).setCell (.inl (by simp)) _;have h1:r≠N:=fun e=>by subst e;exact Blk.ne_ (t:=258) hB hR.blk (by decide) rfl
 have h2:∀ x∈v.ownBlock.toList,x≠N:=fun x hx e=>by subst e;exact own_blk_ne hR.own hB (by decide) (by simpa using hx)
 refine⟨⟨hR.blk.keep hk (by simpa using h1),XB hR.own hk (fun x hx=>by simpa using h2 x (by simpa using hx)),hR.base,hR.le,hR.few⟩,?_,hk⟩;have:=hB.set j (.int .i64 0);obtain rfl | rfl | rfl | rfl | rfl:j=0∨j=1∨j=2∨j=3∨j=4:=by omega
 all_goals simpa using this
theorem KAN {w3 w4:World} {base r a N:Nat} {v:Value} {bs:List UInt8} {l:List Nat} (hR:RowAt w3 base r v bs a) (hk:Keep l w3 w4) (hl:∀ x∈l,x∈r :: v.ownBlock.toList) (hB:Blk w3 N 258 #[.int .i64 0,.int .i64 0,.int .i64 0,.int .i64 0,.int .i64 0]) :
 Blk w4 N 258 #[.int .i64 0,.int .i64 0,.int .i64 0,.int .i64 0,.int .i64 0]:=by
 refine hB.keep hk (fun hm=>?_);rcases List.mem_cons.1 (hl _ hm) with rfl | hx
 · exact Blk.ne_ (t:=258) hB hR.blk (by decide) rfl
 · exact own_blk_ne hR.own hB (by decide) (by simpa using hx)
theorem Ke (A:Option Addr) (c:Nat) (w:World) (ha:Rd w A 64 (bys (List.replicate 64 0))) :
 Calls Tryz.prog 258 #[.slice A 64 c] w fun e w'=>e=.returned (.tuple #[.agg #[.int .i64 0,.int .i64 0,.int .i64 0,.int .i64 0,.int .i64 0],.int .i64 2])∧Keep [] w w':=by
 have hF:=fun W (hk:Keep [] w W)=>ZX A 64 c _ W (ha.keep hk) (by omega);have hE:=fun W=>XAv W;have hBk:=Blk.new w 258 #[.int .i64 0,.int .i64 0,.int .i64 0,.int .i64 0,.int .i64 0]
 go_enter Tryz.func258,Tryz.ntmps258
 go_wp2_with (
  (refine(hF _ ((Keep.refl _ _).alloc _)).mono ?_)
  clear hF;rintro e w2 ⟨r,v,rfl,hR,hk2⟩;have hB2:=hBk.keep0 hk2;clear hBk)
 have hkw:Keep [] w w2:=((Keep.refl _ _).alloc _).trans0 hk2;have hT:=JX w2 _ r 0 2 v _ hR (by simp)
 go_wp2_with (
  (refine hT.mono ?_)
  clear hT;rintro e w3 ⟨ut,rfl,-,hR3,hk3⟩)
 have hB3:=KAN hR hk3 (by simp) hB2;have hK3:Keep [] w w3:=hkw.trans hk3 (fun x hx=>.inr (Nat.le_trans (by simp) (hR.fresh x (by simp at hx;simp[hx]))));clear hR hB2 hkw hk2 hk3;have hT:=KAy (a:=2) (k:=1) hR3 (by omega) (by omega)
 go_wp2_with (
  (refine hT.mono ?_)
  clear hT;rintro e w4 ⟨rfl,hR4,hk4⟩;have hB4:=KAN hR3 hk4 (by simp) hB3;have q4:=hB4.frozen 0;obtain⟨x0,x1,x2,x3,x4⟩:=YD hB4;have hlt4:=hB4.lt;obtain⟨hR4',hB4',hk4'⟩:=Ym 0 (by omega) hR4 hB4;have hK4':=(hK3.trans hk4 (fun x hx=>.inr (Nat.le_trans (by simp) (hR3.fresh x (by simp at hx;simp[hx]))))).trans hk4' (fun x hx=>.inr (by simp at hx;omega))
  skip)
 clear q4 x0 x1 x2 x3 x4 hR3 hB3 hK3 hR4 hB4;have hT:=KAy (a:=3) (k:=1) hR4' (by omega) (by omega)
 go_wp2_with (
  (refine hT.mono ?_)
  clear hT;rintro e w5 ⟨rfl,hR5,hk5⟩;have hB5:=KAN hR4' hk5 (by simp) hB4';have q5:=hB5.frozen 1;obtain⟨x0,x1,x2,x3,x4⟩:=YD hB5;have hlt5:=hB5.lt;obtain⟨hR5',hB5',hk5'⟩:=Ym 1 (by omega) hR5 hB5;have hK5':=(hK4'.trans hk5 (fun x hx=>.inr (Nat.le_trans (by simp) (hR4'.fresh x (by simp at hx;simp[hx]))))).trans hk5' (fun x hx=>.inr (by simp at hx;omega))
  skip)
 clear q5 x0 x1 x2 x3 x4 hR4' hB4' hK4' hR5 hB5;have hT:=KAy (a:=4) (k:=1) hR5' (by omega) (by omega)
 go_wp2_with (
  (refine hT.mono ?_)
  clear hT;rintro e w6 ⟨rfl,hR6,hk6⟩;have hB6:=KAN hR5' hk6 (by simp) hB5';have q6:=hB6.frozen 2;obtain⟨x0,x1,x2,x3,x4⟩:=YD hB6;have hlt6:=hB6.lt;obtain⟨hR6',hB6',hk6'⟩:=Ym 2 (by omega) hR6 hB6;have hK6':=(hK5'.trans hk6 (fun x hx=>.inr (Nat.le_trans (by simp) (hR5'.fresh x (by simp at hx;simp[hx]))))).trans hk6' (fun x hx=>.inr (by simp at hx;omega))
  skip)
 clear q6 x0 x1 x2 x3 x4 hR5' hB5' hK5' hR6 hB6;have hT:=KAy (a:=5) (k:=4) hR6' (by omega) (by omega)
 go_wp2_with (
  (refine hT.mono ?_)
  clear hT;rintro e w7 ⟨rfl,hR7,hk7⟩;have hB7:=KAN hR6' hk7 (by simp) hB6';have q7:=hB7.frozen 3;obtain⟨x0,x1,x2,x3,x4⟩:=YD hB7;have hlt7:=hB7.lt;obtain⟨hR7',hB7',hk7'⟩:=Ym 3 (by omega) hR7 hB7;have hK7':=(hK6'.trans hk7 (fun x hx=>.inr (Nat.le_trans (by simp) (hR6'.fresh x (by simp at hx;simp[hx]))))).trans hk7' (fun x hx=>.inr (by simp at hx;omega))
  skip)
 clear q7 x0 x1 x2 x3 x4 hR6' hB6' hK6' hR7 hB7;have hT:=KAy (a:=9) (k:=4) hR7' (by omega) (by omega)
 go_wp2_with (
  (refine hT.mono ?_)
  clear hT;rintro e w8 ⟨rfl,hR8,hk8⟩;have hB8:=KAN hR7' hk8 (by simp) hB7';have q8:=hB8.frozen 4;obtain⟨x0,x1,x2,x3,x4⟩:=YD hB8;have hlt8:=hB8.lt;obtain⟨hR8',hB8',hk8'⟩:=Ym 4 (by omega) hR8 hB8;have hK8':=(hK7'.trans hk8 (fun x hx=>.inr (Nat.le_trans (by simp) (hR7'.fresh x (by simp at hx;simp[hx]))))).trans hk8' (fun x hx=>.inr (by simp at hx;omega));obtain⟨y0,y1,y2,y3,y4⟩:=YD hB8')
 clear q8 x0 x1 x2 x3 x4 hR7' hB7' hK7' hR8 hB8
 go_wp2_with (
  (refine(hE _).mono ?_)
  clear hE;rintro e w9 ⟨rfl,hk9⟩;have hB9:=hB8'.keep0 hk9;obtain⟨x0,x1,x2,x3,x4⟩:=YD hB9;have f0:=hB9.frozen 0;have f1:=hB9.frozen 1;have f2:=hB9.frozen 2;have f3:=hB9.frozen 3;have f4:=hB9.frozen 4;have hlt9:=hB9.lt)
 have z0:=Ym 0 (by omega) (hR8'.keep0 hk9) hB9;have z1:=Ym 1 (by omega) z0.1 z0.2.1;have z2:=Ym 2 (by omega) z1.1 z1.2.1;have z3:=Ym 3 (by omega) z2.1 z2.2.1;have z4:=Ym 4 (by omega) z3.1 z3.2.1;have hK:=(((((hK8'.trans0 hk9).trans z0.2.2 (fun x hx=>.inr (by simp at hx;omega))).trans z1.2.2 (fun x hx=>.inr (by simp at hx;omega))).trans z2.2.2 (fun x hx=>.inr (by simp at hx;omega))).trans z3.2.2 (fun x hx=>.inr (by simp at hx;omega))).trans z4.2.2 (fun x hx=>.inr (by simp at hx;omega));obtain⟨y0,y1,y2,y3,y4⟩:=YD z4.2.1;refine bodyPost_ret (v:=.tuple #[.agg #[.int .i64 0,.int .i64 0,.int .i64 0,.int .i64 0,.int .i64 0],.int .i64 2]) (by simp[results,Tryz.results258,go_sem,y0,y1,y2,y3,y4]) rfl ?_;exact⟨rfl,hK⟩
end
section
open Go.RowKit
theorem JBB {w4:World} {N:Nat} (j:Nat) (hj:j<5) (hB:Blk w4 N 258 #[.int .i64 0,.int .i64 0,.int .i64 0,.int .i64 0,.int .i64 0]) :
 Blk (w4.setCell ⟨N,j,none⟩ (.int .i64 0)) N 258 #[.int .i64 0,.int .i64 0,.int .i64 0,.int .i64 0,.int .i64 0]∧Keep [N] w4 (w4.setCell ⟨N,j,none⟩ (.int .i64 0)):=by
 refine⟨?_,(Keep.refl _ _).setCell (.inl (by simp)) _⟩;have:=hB.set j (.int .i64 0);obtain rfl | rfl | rfl | rfl | rfl:j=0∨j=1∨j=2∨j=3∨j=4:=by omega
 all_goals simpa using this
theorem Qq (A B:Option Addr) (c d:Nat) (w:World) (ha:Rd w A 64 (bys (List.replicate 64 0))) (hb:Rd w B 64 (bys (List.replicate 64 0))) :
 Calls Tryz.prog 173 #[.slice A 64 c,.slice B 64 d] w fun e w'=>e=.returned (.tuple #[.agg #[.int .i64 0,.int .i64 0,.int .i64 0,.int .i64 0,.int .i64 0],.int .i64 0,.int .i64 2])∧Keep [] w w':=by
 have hD:=fun W (hk:Keep [] w W)=>Ke A c W (ha.keep hk);have hE:=fun W (hk:Keep [] w W)=>Ke B d W (hb.keep hk);have hBk:=Blk.new w 258 #[.int .i64 0,.int .i64 0,.int .i64 0,.int .i64 0,.int .i64 0]
 go_enter Tryz.func173,Tryz.ntmps173
 go_wp2_with (
  (refine(hD _ ((Keep.refl _ _).alloc _)).mono ?_)
  clear hD;rintro e w2 ⟨rfl,hk2⟩)
 have hk12:Keep [] w w2:=((Keep.refl _ _).alloc _).trans0 hk2;have hE':=hE _ (hk12.alloc (.cells #[.int .i64 0,.int .i64 0,.int .i64 0,.int .i64 0,.int .i64 0] 258));clear hE;have hBx:=hBk.keep0 hk2
 go_wp2_with (
  (refine hE'.mono ?_)
  clear hE';rintro e w3 ⟨rfl,hk3⟩;have hB3:=(hBx.keep0 ((Keep.refl _ _).alloc (.cells #[.int .i64 0,.int .i64 0,.int .i64 0,.int .i64 0,.int .i64 0] 258))).keep0 hk3;have hB4:=hB3.keep0 ((Keep.refl _ _).alloc (.cells #[.int .i64 0,.int .i64 0,.int .i64 0,.int .i64 0,.int .i64 0] 258));obtain⟨x0,x1,x2,x3,x4⟩:=YD hB4;have f0:=hB4.frozen 0;have f1:=hB4.frozen 1;have f2:=hB4.frozen 2;have f3:=hB4.frozen 3;have f4:=hB4.frozen 4;have hlt4:=hB4.lt)
 have z0:=JBB 0 (by omega) hB4;have z1:=JBB 1 (by omega) z0.1;have z2:=JBB 2 (by omega) z1.1;have z3:=JBB 3 (by omega) z2.1;have z4:=JBB 4 (by omega) z3.1;have hK:=((((((((hk12.alloc _).trans0 hk3).alloc _)).trans z0.2 (fun x hx=>.inr (by simp at hx;omega))).trans z1.2 (fun x hx=>.inr (by simp at hx;omega))).trans z2.2 (fun x hx=>.inr (by simp at hx;omega))).trans z3.2 (fun x hx=>.inr (by simp at hx;omega))).trans z4.2 (fun x hx=>.inr (by simp at hx;omega));obtain⟨y0,y1,y2,y3,y4⟩:=YD z4.1;refine bodyPost_ret (v:=.tuple #[.agg #[.int .i64 0,.int .i64 0,.int .i64 0,.int .i64 0,.int .i64 0],.int .i64 0,.int .i64 2]) (by simp[results,Tryz.results173,go_sem,y0,y1,y2,y3,y4]) rfl ?_;exact⟨rfl,hK⟩
end
section
open Go.RowKit
def Kf (N:Nat) (H:List UInt8):List UInt8:=H++List.replicate (N-H.length) 0
@[simp] theorem length_zpad {N:Nat} {H:List UInt8} (h:H.length≤N):(Kf N H).length=N:=by simp[Kf];omega
theorem JAh {N:Nat} {H ys:List UInt8} (h:H.length+ys.length≤N):laid (Kf N H) H.length ys=Kf N (H++ys):=by
 unfold laid Kf;rw[List.take_left,List.drop_append,List.drop_eq_nil_of_le (by omega),List.nil_append,List.drop_replicate,List.length_append]
 congr 2
 omega
def RowZ (w:World) (base r:Nat) (v:Value) (N:Nat) (H:List UInt8):Prop:=H.length≤N∧RowAt w base r v (Kf N H) H.length
namespace RowZ
variable {w w':World} {base r N:Nat} {v:Value} {H:List UInt8}
theorem keep0 (h:RowZ w base r v N H) (hk:Keep [] w w'):RowZ w' base r v N H:=⟨h.1,h.2.keep0 hk⟩
theorem fresh (h:RowZ w base r v N H):∀ x∈r :: v.ownBlock.toList,base≤x:=h.2.fresh
theorem x (h:RowZ w base r v N H):RowX w base r v N H.length:=⟨_,length_zpad h.1,h.2⟩
end RowZ
theorem ZBE (n:Nat) (hn:n≤65536) (w:World) :
 Calls Tryz.prog 260 #[.int .i64 (n:Nat)] w fun e w'=>∃ r v,e=.returned (.pointer (some ⟨r,0,none⟩))∧RowZ w' w.heap.size r v n []∧Keep [] w w':=by
 refine(JAD n hn w).mono ?_;rintro e w' ⟨r,v,rfl,h,hk⟩;exact⟨r,v,rfl,⟨by simp,by simpa [Kf] using h⟩,hk⟩
theorem ZAT {W0:World} {base r k N:Nat} {v:Value} {H:List UInt8} (hR:RowZ W0 base r v N H) (hk:k=1∨k=2∨k=4) (zs:List Nat) (hz:∀ z∈zs,z<256 ^ k) (hm0:0<zs.length) (hm:H.length+k*zs.length≤N)
 (cs:Array Value) (hcs:cs.toList=QH zs) (m:Nat) (hml:m=zs.length) :
 Calls Tryz.prog 261 #[.pointer (some ⟨r,0,none⟩),.int .i64 (k:Nat),.slice (some ⟨W0.heap.size,0,none⟩) m m] (W0.alloc (.cells cs 3)) fun e w'=>e=.returned (.bool true) ∧
  RowZ w' base r v N (H++zs.flatMap (le k))∧Keep (r :: v.ownBlock.toList) W0 w':=by
 subst hml;obtain⟨h1,h2⟩:=hR;have hRA:RowAt (W0.alloc (.cells cs 3)) base r v (Kf N H) H.length:=h2.keep0 ((Keep.refl _ _).alloc _)
 have hrd:Rd (W0.alloc (.cells cs 3)) (some ⟨W0.heap.size,0,none⟩) zs.length (QH zs):=by
  have hl:cs.toList.length=zs.length:=by rw[hcs,length_nats]
  have:=Rd.of_blk (n:=zs.length) (Blk.new W0 3 cs) (by simpa using Nat.le_of_eq hl.symm);rw[hcs,List.take_of_length_le (by simp)] at this;exact this
 have hfl:=QF k zs;refine(XAG _ base r _ k v _ hRA hk _ zs.length zs.length zs hrd (fun p hp=>?_) hz hm0 (by rw[length_zpad h1];exact hm)).mono ?_
 · cases hp
   intro hx;rcases List.mem_cons.1 hx with e | hx
   · exact absurd (show W0.heap.size=r from e) (Nat.ne_of_gt h2.blk.lt)
   · exact absurd (own_mem h2.own hx).2 (Nat.lt_irrefl _)
 · rintro e w' ⟨rfl,h3,h4⟩
   rw[JAh (by omega)] at h3;exact⟨rfl,⟨by rw[List.length_append,hfl];exact hm,by rw[List.length_append,hfl];exact h3⟩,((Keep.refl _ _).alloc _).trans h4 (fun x hx=>.inl hx)⟩
theorem XAX {W0:World} {base r N:Nat} {v:Value} {H:List UInt8} (hR:RowZ W0 base r v N H) :
 Calls Tryz.prog 263 #[.pointer (some ⟨r,0,none⟩)] W0 fun e w'=>∃ u,e=.returned u∧w'.ownsRow W0.heap.size 5 1 u N (bys (Kf N H))∧Keep [] W0 w':=by
 obtain⟨h1,h2⟩:=hR;refine(Qm _ _ r _ v _ h2).mono ?_;rintro e w' ⟨u,rfl,h3,h4⟩;exact⟨u,rfl,by rw[length_zpad h1] at h3;exact h3,h4⟩
def Ye (N:Nat) (H:List UInt8):List UInt8:=Kf (N-4) H++le 4 (QS (Kf (N-4) H))
theorem JW {N:Nat} {H:List UInt8} (h4:4≤N) (h:H.length≤N-4):(Ye N H).length=N:=by
 unfold Ye;rw[List.length_append,length_zpad h,length_le];omega
theorem ZAg {N:Nat} {H:List UInt8} (h4:4≤N) (h:H.length≤N-4):laid (Kf N H) ((Kf N H).length-4) (le 4 (QS ((Kf N H).take ((Kf N H).length-4))))=Ye N H:=by
 have hl:(Kf N H).length=N:=length_zpad (by omega)
 have ht:(Kf N H).take (N-4)=Kf (N-4) H:=by
  unfold Kf;rw[List.take_append,List.take_of_length_le h,List.take_replicate]
  congr 2
  omega
 rw[hl,ht];unfold laid Ye;rw[ht,length_le,List.drop_eq_nil_of_le (by omega),List.append_nil]
theorem YAv {W0:World} {base N:Nat} {u:Value} {H:List UInt8} (hu:W0.ownsRow base 5 1 u N (bys (Kf N H))) (h4:4≤N) (h:H.length≤N-4) (hn:N≤65536) :
 Calls Tryz.prog 262 #[u] W0 fun e w'=>e=.returned u∧w'.ownsRow base 5 1 u N (bys (Ye N H))∧Keep u.ownBlock.toList W0 w':=by
 have hl:(Kf N H).length=N:=length_zpad (by omega);refine(Zu base u (Kf N H) W0 (by rw[hl];exact hu) (by omega) (by omega)).mono ?_;rintro e w' ⟨rfl,h3,h5⟩;rw[ZAg h4 h,hl] at h3;exact⟨rfl,h3,h5⟩
def fields:List (Nat×Nat)→List UInt8
 | []=>[]
 | (k,n) :: l=>le k n++fields l
def widths:List (Nat×Nat)→Nat
 | []=>0
 | (k,_) :: l=>k+widths l
@[simp] theorem length_fields (l:List (Nat×Nat)):(fields l).length=widths l:=by
 induction l with
 | nil=>rfl
 | cons p l ih=>obtain⟨k,n⟩:=p;simp[fields,widths,ih]
theorem YE (l m:List (Nat×Nat)):fields (l++m)=fields l++fields m:=by
 induction l with
 | nil=>rfl
 | cons p l ih=>obtain⟨k,n⟩:=p;simp[fields,ih]
theorem ZJ (k:Nat) (zs:List Nat):zs.flatMap (le k)=fields (zs.map fun z=>(k,z)):=by
 induction zs with
 | nil=>rfl
 | cons z zs ih=>simp[fields,ih]
theorem KAS (l:List (Nat×Nat)) (k n:Nat) (m:List (Nat×Nat)) (t:List UInt8) (hn:n<256 ^ k):num (((fields (l++(k,n) :: m)++t).drop (widths l)).take k)=n:=by
 rw[YE,List.append_assoc,List.drop_left' (length_fields l)];simp only[fields];rw[List.append_assoc,List.take_left' (length_le k n),VAz k n hn]
theorem ZV (N:Nat) (l:List (Nat×Nat)):∃ t,Ye N (fields l)=fields l++t:=⟨_,by unfold Ye Kf;rw[List.append_assoc]⟩
end
end Go.Proofs.YtkonbpfbjiepfaaGreat
