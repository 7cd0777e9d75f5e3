/- Lemmas of the proof, with their conditions. -/
import Derived.Test.YthgphmfipnjllaaGreatV14
import Derived.Test.YthgphmfipnjllaaGreatV04
namespace Go.Proofs.YthgphmfipnjllaaGreat
set_option linter.unusedSimpArgs false
set_option linter.unusedVariables false
set_option maxHeartbeats 4000000
set_option maxRecDepth 20000
section
open Go.RowKit
structure PItem where
 k:Nat
 b:Nat
 c:Nat
 v:Nat
def itc (i:PItem):List Value:=[.int .i64 i.k,.int .i64 i.b,.int .i64 i.c,.int .i64 i.v]
theorem JE (i:PItem):(itc i).length=4:=rfl
def PItem.May (i:PItem):Prop:=
 ((i.k=1∨i.k=5)∧i.b≤63∧i.c=0∧i.v=0)∨((i.k=2∨i.k=6)∧i.b≤63∧1≤i.c∧i.c+i.b≤64∧i.v=0)∨(i.k=3∧i.b=0∧i.c=0∧1≤i.v∧i.v≤2147483647) ∨
 (i.k=4∧i.b≤63∧i.c=0∧1≤i.v∧i.v≤4095)∨(i.k=7∧i.b=0∧i.c=0∧i.v≤31)
def PItem.loaded (i:PItem):Bool:=i.k == 1 || i.k == 4 || i.k == 5
theorem PItem.May.bounds {i:PItem} (h:i.May):i.k≤7∧i.b≤63∧i.c≤64∧i.v≤2147483647:=by
 rcases h with⟨h | h,_⟩ | ⟨h | h,_⟩ | ⟨h,_⟩ | ⟨h,_⟩ | ⟨h,_⟩ <;> omega
theorem VAN (n lo hi:Int) (w:World):Calls Tryz.prog 243 #[.int .i64 n,.int .i64 lo,.int .i64 hi] w fun e w'=>e=.returned (.bool (decide (lo≤n∧n≤hi)))∧w=w':=by
 by_cases h1:lo≤n
 · by_cases h2:n≤hi
   all_goals
    go_enter Tryz.func243,Tryz.ntmps243
    go_wp2
    go_ret
    exact⟨by simp[h1,h2],rfl⟩
 · go_enter Tryz.func243,Tryz.ntmps243
   go_wp2
   go_ret
   exact⟨by simp;omega,rfl⟩
theorem Vi (i:PItem) (h:i.May) (w:World):Calls Tryz.prog 137 #[.agg (itc i).toArray] w fun e w'=>e=.returned (.bool true)∧Keep [] w w':=by
 obtain⟨k,b,c,v⟩:=i
 simp only[itc]
 have hW:=fun n lo hi W (h:lo≤n∧n≤hi)=>(by have:=VAN n lo hi W;rwa [decide_eq_true h] at this:Calls Tryz.prog 243 #[.int .i64 n,.int .i64 lo,.int .i64 hi] W fun e w'=>e=.returned (.bool true)∧W=w')
 have hBk:=Blk.new w 114 #[.int .i64 k,.int .i64 b,.int .i64 c,.int .i64 v]
 rcases h with⟨h | h,h1,h2,h3⟩ | ⟨h | h,h1,h2,h3,h4⟩ | ⟨h,h1,h2,h3,h4⟩ | ⟨h,h1,h2,h3,h4⟩ | ⟨h,h1,h2,h3⟩
 all_goals
  simp only at h h1 h2 h3
  try simp only at h4
  subst h
  try subst h2
  try subst h3
  try subst h4
  try subst h1
  go_enter Tryz.func137,Tryz.ntmps137
  go_wp2_with (go_at_call 243;refine(hW _ _ _ _ ⟨by omega,by omega⟩).mono ?_;rintro e w' ⟨rfl,rfl⟩)
  go_ret
  exact⟨rfl,(Keep.refl _ _).alloc _⟩
theorem Ke (i:PItem) (h:i.May) (w:World):Calls Tryz.prog 136 #[.agg (itc i).toArray] w fun e w'=>e=.returned (.bool i.loaded)∧Keep [] w w':=by
 have hM:=fun W=>Vi i h W
 obtain⟨k,b,c,v⟩:=i
 simp only[itc] at hM ⊢
 have hb:=h.bounds.1
 simp only at hb
 have hk:k=1∨k=2∨k=3∨k=4∨k=5∨k=6∨k=7:=by rcases h with⟨h | h,_⟩ | ⟨h | h,_⟩ | ⟨h,_⟩ | ⟨h,_⟩ | ⟨h,_⟩ <;> simp only at h <;> omega
 clear h hb
 have hbl:=fun(w1:World) (hk:Keep [] (w.alloc (.cells #[.int .i64 k,.int .i64 b,.int .i64 c,.int .i64 v] 114)) w1)=>(Blk.new w 114 #[.int .i64 k,.int .i64 b,.int .i64 c,.int .i64 v]).keep0 hk
 rcases hk with rfl | rfl | rfl | rfl | rfl | rfl | rfl
 all_goals
  go_enter Tryz.func136,Tryz.ntmps136
  go_wp2_with (refine(hM _).mono ?_;clear hM;rintro e w1 ⟨rfl,hk1⟩;have hc0:=(hbl _ hk1).cell 0;simp at hc0)
  go_ret
  exact⟨rfl,((Keep.refl _ _).alloc _).trans0 hk1⟩
end
section
open Go.RowKit
def Qi (N:Nat) (H:List UInt8):List UInt8:=laid (laid (List.replicate N 0) 0 H) (N-4) (le 4 (ZQ ((laid (List.replicate N 0) 0 H).take (N-4))))
theorem Xu (N:Nat) (H:List UInt8) (h4:4≤N) (h:H.length≤N):(Qi N H).length=N:=by
 unfold Qi
 rw[XF _ _ _ (by rw[length_le,KQ _ _ h];omega),KQ _ _ h]
theorem VAl {w1 W0:World} {r N:Nat} {v:Value} {H:List UInt8} {u:Value} (hu:W0.ownsRow w1.heap.size 5 1 u N (bys (laid (List.replicate N 0) 0 H))) (h4:4≤N) (hn:N≤65536) (h:H.length≤N) :
 Calls Tryz.prog 291 #[u] W0 fun e w'=>e=.returned u∧w'.ownsRow w1.heap.size 5 1 u N (bys (Qi N H))∧Keep u.ownBlock.toList W0 w':=by
 have hl:=KQ N H h
 have:=JAL w1.heap.size u (laid (List.replicate N 0) 0 H) W0 (by rw[hl];exact hu) (by omega) (by omega)
 rw[hl] at this
 exact this
theorem JR (n lo hi:Int) (w:World) (h:lo≤n∧n≤hi):Calls Tryz.prog 372 #[.int .i64 n,.int .i64 lo,.int .i64 hi] w fun e w'=>e=.returned (.bool true)∧w=w':=by
 obtain⟨h1,h2⟩:=h
 go_enter Tryz.func372,Tryz.ntmps372
 go_wp2
 go_ret
 exact⟨rfl,rfl⟩
def Jz (seg mount lsn prev:Nat):List UInt8:=([]++[75,72,seg].flatMap (le 1))++[mount,lsn,prev].flatMap (le 4)
theorem XQ (seg mount lsn prev:Nat):(Jz seg mount lsn prev).length=15:=by simp[Jz,QH]
theorem YAl (seg mount lsn prev:Nat) (h1:seg≤31) (h2:1≤mount∧mount≤2147483647) (h3:1≤lsn∧lsn≤2147483647) (h4:prev≤4294967295) (w:World) :
 Calls Tryz.prog 341 #[.agg #[.int .i64 seg,.int .i64 mount,.int .i64 lsn,.int .i64 prev]] w fun e w'=>e=.returned (.bool true)∧Keep [] w w':=by
 have hT1:=fun W=>JR seg 0 31 W ⟨by omega,by omega⟩
 have hT2:=fun W=>JR mount 1 2147483647 W ⟨by omega,by omega⟩
 have hT3:=fun W=>JR lsn 1 2147483647 W ⟨by omega,by omega⟩
 have hT4:=fun W=>JR prev 0 4294967295 W ⟨by omega,by omega⟩
 go_enter Tryz.func341,Tryz.ntmps341
 go_wp2_with (first | (refine(hT1 _).mono ?_;clear hT1;rintro e w' ⟨rfl,rfl⟩) | (refine(hT2 _).mono ?_;clear hT2;rintro e w' ⟨rfl,rfl⟩) | (refine(hT3 _).mono ?_;clear hT3;rintro e w' ⟨rfl,rfl⟩) | (refine(hT4 _).mono ?_;clear hT4;rintro e w' ⟨rfl,rfl⟩))
 go_ret
 exact⟨rfl,(Keep.refl _ _).alloc _⟩
theorem ZD {w:World} {g:Nat} {t:TypeId} {x0 x1 x2 x3:Value} (h:Blk w g t #[x0,x1,x2,x3]) :
 w.cell? ⟨g,0,none⟩=some x0∧w.cell? ⟨g,1,none⟩=some x1∧w.cell? ⟨g,2,none⟩=some x2∧w.cell? ⟨g,3,none⟩=some x3:=
 ⟨by simpa using h.cell 0,by simpa using h.cell 1,by simpa using h.cell 2,by simpa using h.cell 3⟩
theorem YAJ (seg mount lsn prev:Nat) (h1:seg≤31) (h2:1≤mount∧mount≤2147483647) (h3:1≤lsn∧lsn≤2147483647) (h4:prev≤4294967295) (w:World) :
 Calls Tryz.prog 285 #[.agg #[.int .i64 seg,.int .i64 mount,.int .i64 lsn,.int .i64 prev]] w fun e w'=>∃ u,e=.returned (.tuple #[u,.int .i64 0])∧w'.ownsRow w.heap.size 5 1 u 64 (bys (Qi 64 (Jz seg mount lsn prev)))∧Keep [] w w':=by
 have hT:=fun W=>YAl seg mount lsn prev h1 h2 h3 h4 W
 have hbl:=Blk.new w 260 #[.int .i64 seg,.int .i64 mount,.int .i64 lsn,.int .i64 prev]
 go_enter Tryz.func285,Tryz.ntmps285
 go_wp2_with (
  (refine(hT _).mono ?_)
  rintro r w1 ⟨rfl,hk1⟩
  clear hT
  have hB1:=hbl.keep0 hk1
  obtain⟨c0,c1,c2,c3⟩:=ZD hB1
  have hlt:=hB1.lt)
 have hN:=XAY 64 (by omega) w1
 go_wp2_with (
  (refine hN.mono ?_)
  rintro r w2 ⟨g,u,rfl,hR0,hK⟩
  clear hN
  have hB2:=hB1.keep0 hK
  clear c0 c1 c2 c3
  obtain⟨c0,c1,c2,c3⟩:=ZD hB2
  have hlt2:=hB2.lt)
 have hR:RowAt w2 w1.heap.size g u (laid (List.replicate 64 0) 0 []) ([]:List UInt8).length:=by rw[laid_nil];exact hR0
 clear hR0
 have hP:=ZAi (k:=1) hK hR (by omega) [75,72,seg] (by simp;omega) (by simp) (by simp[QH]) #[.int .i64 75,.int .i64 72,.int .i64 seg] rfl 3 rfl
 go_wp2_with (
  (refine hP.mono ?_)
  clear hP
  rintro r w3 ⟨rfl,hR3,hK3⟩
  clear hR hK hB2 c0 c1 c2 c3 hlt2
  have hB2:=hB1.keep0 hK3
  obtain⟨c0,c1,c2,c3⟩:=ZD hB2
  have hlt2:=hB2.lt
  have hR:=hR3
  have hK:=hK3
  clear hR3 hK3)
 have hP:=ZAi (k:=4) hK hR (by omega) [mount,lsn,prev] (by simp;omega) (by simp) (by simp[QH]) #[.int .i64 mount,.int .i64 lsn,.int .i64 prev] rfl 3 rfl
 go_wp2_with (
  (refine hP.mono ?_)
  clear hP
  rintro r w3 ⟨rfl,hR3,hK3⟩
  clear hR hK hB2 c0 c1 c2 c3 hlt2
  have hBy:=Qz w3 _ _ _ _ _ hR3)
 rw[show ([]++[75,72,seg].flatMap (le 1))++[mount,lsn,prev].flatMap (le 4)=Jz seg mount lsn prev from rfl,KQ _ _ (by rw[XQ];omega)] at hBy
 go_wp2_with (
  (refine hBy.mono ?_)
  clear hBy
  rintro r w4 ⟨u4,rfl,hu4,hk4⟩
  have hSe:=VAl (w1:=w3) (r:=0) (v:=u4) hu4 (by omega) (by omega) (by rw[XQ];omega))
 go_wp2_with (
  (refine hSe.mono ?_)
  clear hSe
  rintro r w5 ⟨rfl,hu5,hk5⟩)
 go_ret2
 have hkA:Keep [] w w3:=(((Keep.refl _ _).alloc _).trans0 hk1).trans0 hK3
 refine⟨u4,rfl,VC hu5 hkA.size,(hkA.trans0 hk4).trans hk5 (fun x hx=>.inr ?_)⟩
 exact Nat.le_trans hkA.size (own_mem hu4 hx).1
end
section
open Go.RowKit
def RowX (w:World) (base r:Nat) (v:Value) (N a:Nat):Prop:=∃ bs,bs.length=N∧RowAt w base r v bs a
theorem RowX.keep0 {w w':World} {base r N a:Nat} {v:Value} (h:RowX w base r v N a) (hk:Keep [] w w'):RowX w' base r v N a:=by
 obtain⟨bs,h1,h2⟩:=h;exact⟨bs,h1,h2.keep0 hk⟩
theorem RowX.fresh {w:World} {base r N a:Nat} {v:Value} (h:RowX w base r v N a):∀ x∈r :: v.ownBlock.toList,base≤x:=by
 obtain⟨bs,h1,h2⟩:=h;exact h2.fresh
theorem RowX.blk {w w':World} {base r N a g:Nat} {v:Value} {t:TypeId} {cs:Array Value} (h:RowX w base r v N a) (hk:Keep (r :: v.ownBlock.toList) w w') (hB:Blk w g t cs) (h1:t≠392) (h2:5≠t):Blk w' g t cs:=by
 obtain⟨bs,_,h⟩:=h
 refine hB.keep hk (fun hm=>?_)
 rcases List.mem_cons.1 hm with rfl | hm
 · exact Blk.ne_ (t:=t) hB h.blk h1 rfl
 · exact own_blk_ne h.own hB h2 (by simpa using hm)
theorem YC {α:Type} {f:α→List Value} {s:Nat} (hf:∀ x,(f x).length=s) {w:World} {g n:Nat} {xs:List α} (h:Rd w (some ⟨g,0,none⟩) (n*s) (xs.flatMap f)) {i j:Nat} (hi:i<xs.length) (hj:j<s) :
 g<w.heap.size∧w.cell? ⟨g,i*s+j,none⟩=(f xs[i])[j]? := by
 have hx:=VO hf xs i j hi hj
 have hfl:j<(f xs[i]).length:=by rw[hf xs[i]];exact hj
 obtain⟨u,hu⟩:∃ u,(f xs[i])[j]? = some u:=⟨_,List.getElem?_eq_getElem hfl⟩
 rw[hu] at hx ⊢
 have hn:0<n*s:=by
  have:=(List.getElem?_eq_some_iff.1 hx).1
  rw[h.1] at this;omega
 obtain⟨b,o,he,hb,hc⟩:=h.2 hn
 cases he
 exact⟨hb,by simpa using hc _ _ hx⟩
end
section
open Go.RowKit
def KP (N:Nat) (H:List UInt8):List UInt8:=H++List.replicate (N-H.length) 0
@[simp] theorem length_zpad {N:Nat} {H:List UInt8} (h:H.length≤N):(KP N H).length=N:=by simp[KP];omega
theorem Zy {N:Nat} {H ys:List UInt8} (h:H.length+ys.length≤N):laid (KP N H) H.length ys=KP N (H++ys):=by
 unfold laid KP
 rw[List.take_left,List.drop_append,List.drop_eq_nil_of_le (by omega),List.nil_append,List.drop_replicate,List.length_append]
 congr 2
 omega
def RowZ (w:World) (base r:Nat) (v:Value) (N:Nat) (H:List UInt8):Prop:=H.length≤N∧RowAt w base r v (KP N H) H.length
namespace RowZ
variable {w w':World} {base r N:Nat} {v:Value} {H:List UInt8}
theorem keep0 (h:RowZ w base r v N H) (hk:Keep [] w w'):RowZ w' base r v N H:=⟨h.1,h.2.keep0 hk⟩
theorem fresh (h:RowZ w base r v N H):∀ x∈r :: v.ownBlock.toList,base≤x:=h.2.fresh
theorem x (h:RowZ w base r v N H):RowX w base r v N H.length:=⟨_,length_zpad h.1,h.2⟩
end RowZ
theorem KBC (n:Nat) (hn:n≤65536) (w:World) :
 Calls Tryz.prog 289 #[.int .i64 (n:Nat)] w fun e w'=>∃ r v,e=.returned (.pointer (some ⟨r,0,none⟩))∧RowZ w' w.heap.size r v n []∧Keep [] w w':=by
 refine(XAY n hn w).mono ?_
 rintro e w' ⟨r,v,rfl,h,hk⟩
 exact⟨r,v,rfl,⟨by simp,by simpa [KP] using h⟩,hk⟩
theorem Kw {W0:World} {base r k N:Nat} {v:Value} {H:List UInt8} (hR:RowZ W0 base r v N H) (hk:k=1∨k=2∨k=4) (zs:List Nat) (hz:∀ z∈zs,z<256 ^ k) (hm0:0<zs.length) (hm:H.length+k*zs.length≤N)
 (cs:Array Value) (hcs:cs.toList=ZP zs) (m:Nat) (hml:m=zs.length) :
 Calls Tryz.prog 290 #[.pointer (some ⟨r,0,none⟩),.int .i64 (k:Nat),.slice (some ⟨W0.heap.size,0,none⟩) m m] (W0.alloc (.cells cs 3)) fun e w'=>e=.returned (.bool true) ∧
  RowZ w' base r v N (H++zs.flatMap (le k))∧Keep (r :: v.ownBlock.toList) W0 w':=by
 subst hml
 obtain⟨h1,h2⟩:=hR
 have hRA:RowAt (W0.alloc (.cells cs 3)) base r v (KP N H) H.length:=h2.keep0 ((Keep.refl _ _).alloc _)
 have hrd:Rd (W0.alloc (.cells cs 3)) (some ⟨W0.heap.size,0,none⟩) zs.length (ZP zs):=by
  have hl:cs.toList.length=zs.length:=by rw[hcs,length_nats]
  have:=Rd.of_blk (n:=zs.length) (Blk.new W0 3 cs) (by simpa using Nat.le_of_eq hl.symm)
  rw[hcs,List.take_of_length_le (by simp)] at this
  exact this
 have hfl:=QH k zs
 refine(KAb _ base r _ k v _ hRA hk _ zs.length zs.length zs hrd (fun p hp=>?_) hz hm0 (by rw[length_zpad h1];exact hm)).mono ?_
 · cases hp
   intro hx
   rcases List.mem_cons.1 hx with e | hx
   · exact absurd (show W0.heap.size=r from e) (Nat.ne_of_gt h2.blk.lt)
   · exact absurd (own_mem h2.own hx).2 (Nat.lt_irrefl _)
 · rintro e w' ⟨rfl,h3,h4⟩
   rw[Zy (by omega)] at h3
   exact⟨rfl,⟨by rw[List.length_append,hfl];exact hm,by rw[List.length_append,hfl];exact h3⟩,((Keep.refl _ _).alloc _).trans h4 (fun x hx=>.inl hx)⟩
theorem XBH {W0:World} {base r N:Nat} {v:Value} {H:List UInt8} (hR:RowZ W0 base r v N H) (S:Option Addr) (m sc:Nat) (ys:List UInt8) (hr:Rd W0 S m (bys ys)) (hm:H.length+m≤N) :
 Calls Tryz.prog 344 #[.pointer (some ⟨r,0,none⟩),.slice S m sc] W0 fun e w'=>e=.returned (.bool true)∧RowZ w' base r v N (H++ys)∧Keep (r :: v.ownBlock.toList) W0 w':=by
 obtain⟨h1,h2⟩:=hR
 have hl:ys.length=m:=by simpa using hr.1
 refine(XAx _ _ r _ v _ h2 S m sc ys hr (by rw[length_zpad h1];exact hm)).mono ?_
 rintro e w' ⟨rfl,h3,h4⟩
 rw[Zy (by omega)] at h3
 exact⟨rfl,⟨by rw[List.length_append,hl];exact hm,by rw[List.length_append,hl];exact h3⟩,h4⟩
theorem JBF {W0:World} {base r N m:Nat} {v:Value} {H:List UInt8} (hR:RowZ W0 base r v N H) (hm:H.length+m≤N) :
 Calls Tryz.prog 345 #[.pointer (some ⟨r,0,none⟩),.int .i64 (m:Nat)] W0 fun e w'=>∃ u,e=.returned (.tuple #[u,.bool true])∧RowZ w' base r v N (H++List.replicate m 0)∧Keep (r :: v.ownBlock.toList) W0 w':=by
 obtain⟨h1,h2⟩:=hR
 refine(YN _ _ r _ m v _ h2 (by rw[length_zpad h1];exact hm)).mono ?_
 rintro e w' ⟨u,rfl,h3,h4,h5⟩
 refine⟨u,rfl,⟨by simpa using hm,?_⟩,h5.sub (by simp)⟩
 have:KP N (H++List.replicate m 0)=KP N H:=by
  unfold KP
  rw[List.append_assoc,List.replicate_append_replicate,List.length_append,List.length_replicate]
  congr 2
  omega
 rw[this,List.length_append,List.length_replicate]
 exact h4
theorem Zt {W0:World} {base r N:Nat} {v:Value} {H:List UInt8} (hR:RowZ W0 base r v N H) :
 Calls Tryz.prog 292 #[.pointer (some ⟨r,0,none⟩)] W0 fun e w'=>∃ u,e=.returned u∧w'.ownsRow W0.heap.size 5 1 u N (bys (KP N H))∧Keep [] W0 w':=by
 obtain⟨h1,h2⟩:=hR
 refine(Qz _ _ r _ v _ h2).mono ?_
 rintro e w' ⟨u,rfl,h3,h4⟩
 exact⟨u,rfl,by rw[length_zpad h1] at h3;exact h3,h4⟩
def Ji (N:Nat) (H:List UInt8):List UInt8:=KP (N-4) H++le 4 (ZQ (KP (N-4) H))
theorem QQ {N:Nat} {H:List UInt8} (h4:4≤N) (h:H.length≤N-4):(Ji N H).length=N:=by
 unfold Ji
 rw[List.length_append,length_zpad h,length_le]
 omega
theorem VAA {N:Nat} {H:List UInt8} (h4:4≤N) (h:H.length≤N-4):laid (KP N H) ((KP N H).length-4) (le 4 (ZQ ((KP N H).take ((KP N H).length-4))))=Ji N H:=by
 have hl:(KP N H).length=N:=length_zpad (by omega)
 have ht:(KP N H).take (N-4)=KP (N-4) H:=by
  unfold KP
  rw[List.take_append,List.take_of_length_le h,List.take_replicate]
  congr 2
  omega
 rw[hl,ht]
 unfold laid Ji
 rw[ht,length_le,List.drop_eq_nil_of_le (by omega),List.append_nil]
theorem JAx {W0:World} {base N:Nat} {u:Value} {H:List UInt8} (hu:W0.ownsRow base 5 1 u N (bys (KP N H))) (h4:4≤N) (h:H.length≤N-4) (hn:N≤65536) :
 Calls Tryz.prog 291 #[u] W0 fun e w'=>e=.returned u∧w'.ownsRow base 5 1 u N (bys (Ji N H))∧Keep u.ownBlock.toList W0 w':=by
 have hl:(KP N H).length=N:=length_zpad (by omega)
 refine(JAL base u (KP N H) W0 (by rw[hl];exact hu) (by omega) (by omega)).mono ?_
 rintro e w' ⟨rfl,h3,h5⟩
 rw[VAA h4 h,hl] at h3
 exact⟨rfl,h3,h5⟩
def fields:List (Nat×Nat)→List UInt8
 | []=>[]
 | (k,n) :: l=>le k n++fields l
def widths:List (Nat×Nat)→Nat
 | []=>0
 | (k,_) :: l=>k+widths l
@[simp] theorem length_fields (l:List (Nat×Nat)):(fields l).length=widths l:=by
 induction l with
 | nil=>rfl
 | cons p l ih=>obtain⟨k,n⟩:=p;simp[fields,widths,ih]
theorem KF (l m:List (Nat×Nat)):fields (l++m)=fields l++fields m:=by
 induction l with
 | nil=>rfl
 | cons p l ih=>obtain⟨k,n⟩:=p;simp[fields,ih]
theorem YJ (k:Nat) (zs:List Nat):zs.flatMap (le k)=fields (zs.map fun z=>(k,z)):=by
 induction zs with
 | nil=>rfl
 | cons z zs ih=>simp[fields,ih]
theorem KAR (l:List (Nat×Nat)) (k n:Nat) (m:List (Nat×Nat)) (t:List UInt8) (hn:n<256 ^ k):num (((fields (l++(k,n) :: m)++t).drop (widths l)).take k)=n:=by
 rw[KF,List.append_assoc,List.drop_left' (length_fields l)]
 simp only[fields]
 rw[List.append_assoc,List.take_left' (length_le k n),XBB k n hn]
theorem Zx (N:Nat) (l:List (Nat×Nat)):∃ t,Ji N (fields l)=fields l++t:=⟨_,by unfold Ji KP;rw[List.append_assoc]⟩
end
section
open Go.RowKit
theorem JAf (w:World):Calls Tryz.prog 38 #[.agg #[.int .i64 0,.int .i64 0,.int .i64 0]] w fun e w'=>e=.returned (.tuple #[.pointer none,.int .i64 1])∧Keep [] w w':=by
 have hT1:=fun W=>KG 0 1 64 W
 rw[decide_eq_false (by omega)] at hT1
 go_enter Tryz.func38,Tryz.ntmps38
 go_wp2_with (first | (refine(hT1 _).mono ?_;clear hT1;rintro e w' ⟨rfl,rfl⟩))
 go_ret2
 exact⟨rfl,(Keep.refl _ _).alloc _⟩
theorem YI {w:World} {g:Nat} {t:TypeId} {x0 x1 x2 x3 x4:Value} (h:Blk w g t #[x0,x1,x2,x3,x4]) :
 w.cell? ⟨g,0,none⟩=some x0∧w.cell? ⟨g,1,none⟩=some x1∧w.cell? ⟨g,2,none⟩=some x2∧w.cell? ⟨g,3,none⟩=some x3∧w.cell? ⟨g,4,none⟩=some x4:=
 ⟨by simpa using h.cell 0,by simpa using h.cell 1,by simpa using h.cell 2,by simpa using h.cell 3,by simpa using h.cell 4⟩
theorem YAR (B id mount:Nat) (h1:1≤B) (h2:B≤64) (h3:id≤2147483647) (h4:1≤mount∧mount≤2147483647) (w:World) :
 Calls Tryz.prog 319 #[.agg #[.int .i64 B,.int .i64 8,.int .i64 24,.int .i64 id,.int .i64 mount]] w fun e w'=>e=.returned (.bool true)∧Keep [] w w':=by
 have hG:=fun W=>QAE W B h1 h2
 have hBk:=Blk.new w 183 #[.int .i64 B,.int .i64 8,.int .i64 24,.int .i64 id,.int .i64 mount]
 obtain⟨h5,h6⟩:=h4
 have i1:((id:Nat):Int)≤2147483647:=by omega
 have i2:(1:Int)≤(mount:Nat):=by omega
 have i3:((mount:Nat):Int)≤2147483647:=by omega
 go_enter Tryz.func319,Tryz.ntmps319
 go_wp2_with (
  (refine(hG _).mono ?_)
  clear hG
  rintro e w2 ⟨g,rfl,-,-,hk2⟩
  have hB2:=hBk.keep0 hk2
  obtain⟨c0,c1,c2,c3,c4⟩:=YI hB2
  have hlt:=hB2.lt
  clear hBk hB2)
 go_ret
 exact⟨rfl,((Keep.refl _ _).alloc _).trans0 hk2⟩
theorem XAV (w:World) :
 Calls Tryz.prog 319 #[.agg #[.int .i64 0,.int .i64 0,.int .i64 0,.int .i64 0,.int .i64 0]] w fun e w'=>e=.returned (.bool false)∧Keep [] w w':=by
 have hG:=fun W=>JAf W
 go_enter Tryz.func319,Tryz.ntmps319
 go_wp2_with (
  (refine(hG _).mono ?_)
  clear hG
  rintro e w2 ⟨rfl,hk2⟩)
 go_ret
 exact⟨rfl,((Keep.refl _ _).alloc _).trans0 hk2⟩
theorem YAy (w:World) :
 Calls Tryz.prog 224 #[.agg #[.int .i64 0,.int .i64 0,.int .i64 0,.int .i64 0,.int .i64 0]] w fun e w'=>e=.returned (.tuple #[.slice none 0 0,.int .i64 1])∧Keep [] w w':=by
 have hM:=fun W=>XAV W
 go_enter Tryz.func224,Tryz.ntmps224
 go_wp2_with (
  (refine(hM _).mono ?_)
  clear hM
  rintro e w2 ⟨rfl,hk2⟩)
 go_ret2
 exact⟨rfl,((Keep.refl _ _).alloc _).trans0 hk2⟩
theorem VBA {W0:World} {base r a k:Nat} {v:Value} (h:RowAt W0 base r v (List.replicate 64 0) a) (hk:k=1∨k=2∨k=4) (hm:a+k≤64) :
 Calls Tryz.prog 307 #[.pointer (some ⟨r,0,none⟩),.int .i64 (k:Nat)] W0 fun e w'=>e=.returned (.tuple #[.int .i64 0,.bool true])∧RowAt w' base r v (List.replicate 64 0) (a+k)∧Keep [r] W0 w':=by
 have:=Zw W0 base r a k v _ h hk (by simpa using hm)
 rw[List.drop_replicate,List.take_replicate,show min k (64-a)=k by omega] at this
 have hz:num (List.replicate k (0:UInt8))=0:=by rcases hk with rfl | rfl | rfl <;> rfl
 rw[hz] at this
 exact this
theorem Ko {w4:World} {base r a N:Nat} {v:Value} {bs:List UInt8} (j:Nat) (hj:j<5) (hR:RowAt w4 base r v bs a) (hB:Blk w4 N 183 #[.int .i64 0,.int .i64 0,.int .i64 0,.int .i64 0,.int .i64 0]) :
 RowAt (w4.setCell ⟨N,j,none⟩ (.int .i64 0)) base r v bs a∧Blk (w4.setCell ⟨N,j,none⟩ (.int .i64 0)) N 183 #[.int .i64 0,.int .i64 0,.int .i64 0,.int .i64 0,.int .i64 0]∧Keep [N] w4 (w4.setCell ⟨N,j,none⟩ (.int .i64 0)):=by
 have hk:Keep [N] w4 (w4.setCell ⟨N,j,none⟩ (.int .i64 0)):=(Keep.refl _ _).setCell (.inl (by simp)) _
 have h1:r≠N:=fun e=>by subst e;exact Blk.ne_ (t:=183) hB hR.blk (by decide) rfl
 have h2:∀ x∈v.ownBlock.toList,x≠N:=fun x hx e=>by subst e;exact own_blk_ne hR.own hB (by decide) (by simpa using hx)
 refine⟨⟨hR.blk.keep hk (by simpa using h1),KA hR.own hk (fun x hx=>by simpa using h2 x (by simpa using hx)),hR.base,hR.le,hR.few⟩,?_,hk⟩
 have:=hB.set j (.int .i64 0)
 obtain rfl | rfl | rfl | rfl | rfl:j=0∨j=1∨j=2∨j=3∨j=4:=by omega
 all_goals simpa using this
theorem QAO {w3 w4:World} {base r a N:Nat} {v:Value} {bs:List UInt8} {l:List Nat} (hR:RowAt w3 base r v bs a) (hk:Keep l w3 w4) (hl:∀ x∈l,x∈r :: v.ownBlock.toList) (hB:Blk w3 N 183 #[.int .i64 0,.int .i64 0,.int .i64 0,.int .i64 0,.int .i64 0]) :
 Blk w4 N 183 #[.int .i64 0,.int .i64 0,.int .i64 0,.int .i64 0,.int .i64 0]:=by
 refine hB.keep hk (fun hm=>?_)
 rcases List.mem_cons.1 (hl _ hm) with rfl | hx
 · exact Blk.ne_ (t:=183) hB hR.blk (by decide) rfl
 · exact own_blk_ne hR.own hB (by decide) (by simpa using hx)
theorem Qt (A:Option Addr) (c:Nat) (w:World) (ha:Rd w A 64 (bys (List.replicate 64 0))) :
 Calls Tryz.prog 304 #[.slice A 64 c] w fun e w'=>e=.returned (.tuple #[.agg #[.int .i64 0,.int .i64 0,.int .i64 0,.int .i64 0,.int .i64 0],.int .i64 2])∧Keep [] w w':=by
 have hF:=fun W (hk:Keep [] w W)=>YU A 64 c _ W (ha.keep hk) (by omega)
 have hE:=fun W=>YAy W
 have hBk:=Blk.new w 183 #[.int .i64 0,.int .i64 0,.int .i64 0,.int .i64 0,.int .i64 0]
 go_enter Tryz.func304,Tryz.ntmps304
 go_wp2_with (
  (refine(hF _ ((Keep.refl _ _).alloc _)).mono ?_)
  clear hF
  rintro e w2 ⟨r,v,rfl,hR,hk2⟩
  have hB2:=hBk.keep0 hk2
  clear hBk)
 have hkw:Keep [] w w2:=((Keep.refl _ _).alloc _).trans0 hk2
 have hT:=YN w2 _ r 0 2 v _ hR (by simp)
 go_wp2_with (
  (refine hT.mono ?_)
  clear hT
  rintro e w3 ⟨ut,rfl,-,hR3,hk3⟩)
 have hB3:=QAO hR hk3 (by simp) hB2
 have hK3:Keep [] w w3:=hkw.trans hk3 (fun x hx=>.inr (Nat.le_trans (by simp) (hR.fresh x (by simp at hx;simp[hx]))))
 clear hR hB2 hkw hk2 hk3
 have hT:=VBA (a:=2) (k:=1) hR3 (by omega) (by omega)
 go_wp2_with (
  (refine hT.mono ?_)
  clear hT
  rintro e w4 ⟨rfl,hR4,hk4⟩
  have hB4:=QAO hR3 hk4 (by simp) hB3
  have q4:=hB4.frozen 0
  obtain⟨x0,x1,x2,x3,x4⟩:=YI hB4
  have hlt4:=hB4.lt
  obtain⟨hR4',hB4',hk4'⟩:=Ko 0 (by omega) hR4 hB4
  have hK4':=(hK3.trans hk4 (fun x hx=>.inr (Nat.le_trans (by simp) (hR3.fresh x (by simp at hx;simp[hx]))))).trans hk4' (fun x hx=>.inr (by simp at hx;omega))
  skip)
 clear q4 x0 x1 x2 x3 x4 hR3 hB3 hK3 hR4 hB4
 have hT:=VBA (a:=3) (k:=1) hR4' (by omega) (by omega)
 go_wp2_with (
  (refine hT.mono ?_)
  clear hT
  rintro e w5 ⟨rfl,hR5,hk5⟩
  have hB5:=QAO hR4' hk5 (by simp) hB4'
  have q5:=hB5.frozen 1
  obtain⟨x0,x1,x2,x3,x4⟩:=YI hB5
  have hlt5:=hB5.lt
  obtain⟨hR5',hB5',hk5'⟩:=Ko 1 (by omega) hR5 hB5
  have hK5':=(hK4'.trans hk5 (fun x hx=>.inr (Nat.le_trans (by simp) (hR4'.fresh x (by simp at hx;simp[hx]))))).trans hk5' (fun x hx=>.inr (by simp at hx;omega))
  skip)
 clear q5 x0 x1 x2 x3 x4 hR4' hB4' hK4' hR5 hB5
 have hT:=VBA (a:=4) (k:=1) hR5' (by omega) (by omega)
 go_wp2_with (
  (refine hT.mono ?_)
  clear hT
  rintro e w6 ⟨rfl,hR6,hk6⟩
  have hB6:=QAO hR5' hk6 (by simp) hB5'
  have q6:=hB6.frozen 2
  obtain⟨x0,x1,x2,x3,x4⟩:=YI hB6
  have hlt6:=hB6.lt
  obtain⟨hR6',hB6',hk6'⟩:=Ko 2 (by omega) hR6 hB6
  have hK6':=(hK5'.trans hk6 (fun x hx=>.inr (Nat.le_trans (by simp) (hR5'.fresh x (by simp at hx;simp[hx]))))).trans hk6' (fun x hx=>.inr (by simp at hx;omega))
  skip)
 clear q6 x0 x1 x2 x3 x4 hR5' hB5' hK5' hR6 hB6
 have hT:=VBA (a:=5) (k:=4) hR6' (by omega) (by omega)
 go_wp2_with (
  (refine hT.mono ?_)
  clear hT
  rintro e w7 ⟨rfl,hR7,hk7⟩
  have hB7:=QAO hR6' hk7 (by simp) hB6'
  have q7:=hB7.frozen 3
  obtain⟨x0,x1,x2,x3,x4⟩:=YI hB7
  have hlt7:=hB7.lt
  obtain⟨hR7',hB7',hk7'⟩:=Ko 3 (by omega) hR7 hB7
  have hK7':=(hK6'.trans hk7 (fun x hx=>.inr (Nat.le_trans (by simp) (hR6'.fresh x (by simp at hx;simp[hx]))))).trans hk7' (fun x hx=>.inr (by simp at hx;omega))
  skip)
 clear q7 x0 x1 x2 x3 x4 hR6' hB6' hK6' hR7 hB7
 have hT:=VBA (a:=9) (k:=4) hR7' (by omega) (by omega)
 go_wp2_with (
  (refine hT.mono ?_)
  clear hT
  rintro e w8 ⟨rfl,hR8,hk8⟩
  have hB8:=QAO hR7' hk8 (by simp) hB7'
  have q8:=hB8.frozen 4
  obtain⟨x0,x1,x2,x3,x4⟩:=YI hB8
  have hlt8:=hB8.lt
  obtain⟨hR8',hB8',hk8'⟩:=Ko 4 (by omega) hR8 hB8
  have hK8':=(hK7'.trans hk8 (fun x hx=>.inr (Nat.le_trans (by simp) (hR7'.fresh x (by simp at hx;simp[hx]))))).trans hk8' (fun x hx=>.inr (by simp at hx;omega))
  obtain⟨y0,y1,y2,y3,y4⟩:=YI hB8')
 clear q8 x0 x1 x2 x3 x4 hR7' hB7' hK7' hR8 hB8
 go_wp2_with (
  (refine(hE _).mono ?_)
  clear hE
  rintro e w9 ⟨rfl,hk9⟩
  have hB9:=hB8'.keep0 hk9
  obtain⟨x0,x1,x2,x3,x4⟩:=YI hB9
  have f0:=hB9.frozen 0
  have f1:=hB9.frozen 1
  have f2:=hB9.frozen 2
  have f3:=hB9.frozen 3
  have f4:=hB9.frozen 4
  have hlt9:=hB9.lt)
 have z0:=Ko 0 (by omega) (hR8'.keep0 hk9) hB9
 have z1:=Ko 1 (by omega) z0.1 z0.2.1
 have z2:=Ko 2 (by omega) z1.1 z1.2.1
 have z3:=Ko 3 (by omega) z2.1 z2.2.1
 have z4:=Ko 4 (by omega) z3.1 z3.2.1
 have hK:=(((((hK8'.trans0 hk9).trans z0.2.2 (fun x hx=>.inr (by simp at hx;omega))).trans z1.2.2 (fun x hx=>.inr (by simp at hx;omega))).trans z2.2.2 (fun x hx=>.inr (by simp at hx;omega))).trans z3.2.2 (fun x hx=>.inr (by simp at hx;omega))).trans z4.2.2 (fun x hx=>.inr (by simp at hx;omega))
 obtain⟨y0,y1,y2,y3,y4⟩:=YI z4.2.1
 refine bodyPost_ret (v:=.tuple #[.agg #[.int .i64 0,.int .i64 0,.int .i64 0,.int .i64 0,.int .i64 0],.int .i64 2]) (by simp[results,Tryz.results304,go_sem,y0,y1,y2,y3,y4]) rfl ?_
 exact⟨rfl,hK⟩
end
section
open Go.RowKit
theorem Kz {W0:World} {base r a k n:Nat} {v:Value} {bs t:List UInt8} (l m:List (Nat×Nat)) (hR:RowAt W0 base r v bs a) (hbs:bs=fields (l++(k,n) :: m)++t) (ha:a=widths l) (hk:k=1∨k=2∨k=4) (hn:n<256 ^ k) :
 Calls Tryz.prog 307 #[.pointer (some ⟨r,0,none⟩),.int .i64 (k:Nat)] W0 fun e w'=>e=.returned (.tuple #[.int .i64 (n:Nat),.bool true])∧RowAt w' base r v bs (a+k)∧Keep [r] W0 w':=by
 have hg:=KAR l k n m t hn
 rw[← hbs,← ha] at hg
 have hl:a+k≤bs.length:=by rw[hbs,KF,ha];simp[fields]
 refine(Zw W0 base r a k v bs hR hk hl).mono ?_
 rw[hg]
 exact fun _ _ h=>h
theorem QZ {w4:World} {base r a N:Nat} {v:Value} {bs:List UInt8} {ty:TypeId} {cs:Array Value} (j:Nat) (x:Value) (hR:RowAt w4 base r v bs a) (hN:N<base) (hB:Blk w4 N ty cs) :
 RowAt (w4.setCell ⟨N,j,none⟩ x) base r v bs a∧Blk (w4.setCell ⟨N,j,none⟩ x) N ty (cs.setIfInBounds j x)∧Keep [N] w4 (w4.setCell ⟨N,j,none⟩ x):=
 ⟨⟨hR.blk.far (p:=⟨N,j,none⟩) (by have:=hR.base;simp;omega) x,own_set hR.own (fun hm=>by have:=(own_mem hR.own hm).1;omega) x,hR.base,hR.le,hR.few⟩,hB.set j x,(Keep.refl [N] _).setCell (p:=⟨N,j,none⟩) (.inl (by simp)) _⟩
theorem Jq {w3 w4:World} {base r a N:Nat} {v:Value} {bs:List UInt8} {l:List Nat} {ty:TypeId} {cs:Array Value} (hR:RowAt w3 base r v bs a) (hk:Keep l w3 w4) (hl:∀ x∈l,x∈r :: v.ownBlock.toList) (hN:N<base) (hB:Blk w3 N ty cs):Blk w4 N ty cs:=
 hB.keep hk (fun hm=>by have:=hR.fresh N (hl N hm);omega)
def VAz (B id mount:Nat):List UInt8:=Ji 64 (fields [(1,75),(1,83),(1,B),(1,8),(1,24),(4,id),(4,mount)])
@[simp] theorem length_supB (B id mount:Nat):(VAz B id mount).length=64:=QQ (by omega) (by simp[widths])
theorem XAv (B id mount:Nat) (h1:1≤B) (h2:B≤64) (h3:id≤2147483647) (h4:1≤mount∧mount≤2147483647) (w:World) :
 Calls Tryz.prog 224 #[.agg #[.int .i64 B,.int .i64 8,.int .i64 24,.int .i64 id,.int .i64 mount]] w fun e w'=>∃ u,e=.returned (.tuple #[u,.int .i64 0])∧w'.ownsRow w.heap.size 5 1 u 64 (bys (VAz B id mount))∧Keep [] w w':=by
 have hM:=fun W=>YAR B id mount h1 h2 h3 h4 W
 have hBk:=Blk.new w 183 #[.int .i64 B,.int .i64 8,.int .i64 24,.int .i64 id,.int .i64 mount]
 go_enter Tryz.func224,Tryz.ntmps224
 go_wp2_with (
  (refine(hM _).mono ?_)
  clear hM
  rintro e w2 ⟨rfl,hk2⟩
  have hB2:=hBk.keep0 hk2
  clear hBk)
 have hkw:Keep [] w w2:=((Keep.refl _ _).alloc _).trans0 hk2
 have hN:=KBC 64 (by omega) w2
 go_wp2_with (
  (refine hN.mono ?_)
  clear hN
  rintro e w4 ⟨r,rv,rfl,hR,hK4⟩
  have hB4:=hB2.keep0 hK4
  obtain⟨c0,c1,c2,c3,c4⟩:=YI hB4
  have hlt:=hB4.lt)
 have hP:=Kw (k:=1) hR (by omega) [75,83,B,8,24] (by simp;omega) (by simp) (by simp) #[.int .i64 75,.int .i64 83,.int .i64 B,.int .i64 8,.int .i64 24] rfl 5 rfl
 go_wp2_with (
  (refine hP.mono ?_)
  clear hP
  rintro e w5 ⟨rfl,hR5,hK5⟩
  have hK5':=hK4.trans hK5 (fun x hx=>.inr (hR.fresh x hx))
  clear c0 c1 c2 c3 c4 hlt hB4
  have hB5:=hB2.keep0 hK5'
  obtain⟨c0,c1,c2,c3,c4⟩:=YI hB5
  have hlt:=hB5.lt
  clear hR hK5 hK4)
 have hP:=Kw (k:=4) hR5 (by omega) [id,mount] (by simp;omega) (by simp) (by simp) #[.int .i64 id,.int .i64 mount] rfl 2 rfl
 go_wp2_with (
  (refine hP.mono ?_)
  clear hP
  rintro e w6 ⟨rfl,hR6,hK6⟩
  have hK6':=hK5'.trans hK6 (fun x hx=>.inr (hR5.fresh x hx))
  clear c0 c1 c2 c3 c4 hlt)
 rw[List.nil_append,YJ,YJ,← KF] at hR6
 have hB:=Zt hR6
 go_wp2_with (refine hB.mono ?_;clear hB;rintro e w12 ⟨u,rfl,hu,hk7⟩)
 have hS:=JAx hu (by omega) (by simp[widths]) (by omega)
 go_wp2_with (refine hS.mono ?_;clear hS;rintro e w13 ⟨rfl,hu3,hk3⟩)
 go_ret2
 have hKw:=hkw.trans0 hK6'
 exact⟨u,rfl,VC hu3 hKw.size,(hKw.trans0 hk7).trans hk3 (fun x hx=>.inr (Nat.le_trans hKw.size (own_mem hu hx).1))⟩
end
section
open Go.RowKit
theorem VAM (N:Nat) (H:List UInt8):laid (List.replicate N 0) 0 H=KP N H:=by
 unfold laid KP
 rw[List.take_zero,List.nil_append,Nat.zero_add,List.drop_replicate]
theorem ZAd {N:Nat} {H:List UInt8} (h4:4≤N) (h:H.length≤N-4):Qi N H=Ji N H:=by
 have hs:=VAA h4 h
 have hl:(KP N H).length=N:=length_zpad (by omega)
 rw[hl] at hs
 unfold Qi
 rw[VAM,hs]
def XAm (seg mount lsn prev:Nat):List (Nat×Nat):=[(1,75),(1,72),(1,seg),(4,mount),(4,lsn),(4,prev)]
def Yp (seg mount lsn prev:Nat):List UInt8:=Ji 64 (fields (XAm seg mount lsn prev))
theorem XAr (seg mount lsn prev:Nat):Jz seg mount lsn prev=fields (XAm seg mount lsn prev):=by simp[Jz,XAm,fields]
theorem KAB (seg mount lsn prev:Nat):(Yp seg mount lsn prev).length=64:=QQ (by omega) (by simp[XAm,widths])
theorem Zu (seg mount lsn prev:Nat):Qi 64 (Jz seg mount lsn prev)=Yp seg mount lsn prev:=by
 rw[ZAd (by omega) (by rw[XQ];omega),XAr]
 rfl
theorem QAR (n lo hi:Int) (w:World) (h:n<lo):Calls Tryz.prog 372 #[.int .i64 n,.int .i64 lo,.int .i64 hi] w fun e w'=>e=.returned (.bool false)∧w=w':=by
 have h1:¬ lo≤n:=by omega
 go_enter Tryz.func372,Tryz.ntmps372
 go_wp2
 go_ret
 exact⟨rfl,rfl⟩
theorem VAu (w:World) :
 Calls Tryz.prog 341 #[.agg #[.int .i64 0,.int .i64 0,.int .i64 0,.int .i64 0]] w fun e w'=>e=.returned (.bool false)∧Keep [] w w':=by
 have hT1:=fun W=>JR 0 0 31 W ⟨by omega,by omega⟩
 have hT2:=fun W=>QAR 0 1 2147483647 W (by omega)
 go_enter Tryz.func341,Tryz.ntmps341
 go_wp2_with (first | (refine(hT1 _).mono ?_;clear hT1;rintro e w' ⟨rfl,rfl⟩) | (refine(hT2 _).mono ?_;clear hT2;rintro e w' ⟨rfl,rfl⟩))
 go_ret
 exact⟨rfl,(Keep.refl _ _).alloc _⟩
theorem VAn (w:World) :
 Calls Tryz.prog 285 #[.agg #[.int .i64 0,.int .i64 0,.int .i64 0,.int .i64 0]] w fun e w'=>e=.returned (.tuple #[.slice none 0 0,.int .i64 1])∧Keep [] w w':=by
 have hM:=fun W=>VAu W
 go_enter Tryz.func285,Tryz.ntmps285
 go_wp2_with (
  (refine(hM _).mono ?_)
  clear hM
  rintro e w2 ⟨rfl,hk2⟩)
 go_ret2
 exact⟨rfl,((Keep.refl _ _).alloc _).trans0 hk2⟩
theorem JAF (A:Option Addr) (c:Nat) (w:World) (ha:Rd w A 64 (bys (List.replicate 64 0))) :
 Calls Tryz.prog 368 #[.slice A 64 c] w fun e w'=>e=.returned (.tuple #[.agg #[.int .i64 0,.int .i64 0,.int .i64 0,.int .i64 0],.int .i64 2])∧Keep [] w w':=by
 obtain⟨bs,hbe⟩:∃ bs:List UInt8,bs=List.replicate 64 0:=⟨_,rfl⟩
 have hlen:bs.length=64:=by rw[hbe];rfl
 obtain⟨t,hbs⟩:∃ t,bs=fields [(1,0),(1,0),(1,0),(4,0),(4,0),(4,0)]++t:=⟨List.replicate 49 0,by rw[hbe];rfl⟩
 have hE:=fun W=>VAn W
 rw[← hbe] at ha
 clear hbe
 have hF:=fun W (hk:Keep [] w W)=>YU A 64 c bs W (ha.keep hk) (by omega)
 have hBk:=Blk.new w 260 #[.int .i64 0,.int .i64 0,.int .i64 0,.int .i64 0]
 have HLEN:=ZB hlen
 have HBS:=ZB hbs
 clear hlen hbs
 go_enter Tryz.func368,Tryz.ntmps368
 go_wp2_with (
  (refine(hF _ ((Keep.refl _ _).alloc _)).mono ?_)
  clear hF
  rintro e w2 ⟨r,v,rfl,hR,hk2⟩
  have hB2:=hBk.keep0 hk2
  clear hBk)
 have hkw:Keep [] w w2:=((Keep.refl _ _).alloc _).trans0 hk2
 have hbase:w.heap.size<(w.alloc (.cells #[.int .i64 0,.int .i64 0,.int .i64 0,.int .i64 0] 260)).heap.size:=by simp
 generalize (w.alloc (.cells #[.int .i64 0,.int .i64 0,.int .i64 0,.int .i64 0] 260)).heap.size=base at *
 have hT:=YN w2 _ r 0 2 v _ hR (by rw[QA HLEN];omega)
 go_wp2_with (
  (refine hT.mono ?_)
  clear hT
  rintro e w3 ⟨ut,rfl,-,hR3,hk3⟩)
 have hB3:=Jq hR hk3 (by simp) hbase hB2
 have hK3:Keep [] w w3:=hkw.trans hk3 (fun x hx=>.inr (by have:=hR.fresh x (by simp at hx;simp[hx]);omega))
 clear hR hB2 hkw hk2 hk3
 have hT:=Kz (k:=1) (n:=0) [(1,0),(1,0)] [(4,0),(4,0),(4,0)] hR3 (QA HBS) rfl (by omega) (by omega)
 go_wp2_with (
  (refine hT.mono ?_)
  clear hT
  rintro e w4 ⟨rfl,hR4,hk4⟩
  have hB4:=Jq hR3 hk4 (by simp) hbase hB3
  have q4:=hB4.frozen 0
  obtain⟨x0,x1,x2,x3⟩:=ZD hB4
  have hlt4:=hB4.lt
  have hz4:=QZ 0 (.int .i64 (0:Nat)) hR4 hbase hB4
  have hK4':=(hK3.trans hk4 (fun x hx=>.inr (by have:=hR3.fresh x (by simp at hx;simp[hx]);omega))).trans hz4.2.2 (fun x hx=>.inr (by simp at hx;omega))
  have hB4':Blk (w4.setCell ⟨w.heap.size,0,none⟩ (.int .i64 (0:Nat))) w.heap.size 260 #[.int .i64 0,.int .i64 0,.int .i64 0,.int .i64 0]:=hz4.2.1
  have hR4':=hz4.1
  obtain⟨y0,y1,y2,y3⟩:=ZD hB4')
 clear q4 x0 x1 x2 x3 hR3 hB3 hK3 hR4 hB4 hz4 y0 y1 y2 y3
 have hT:=Kz (k:=4) (n:=0) [(1,0),(1,0),(1,0)] [(4,0),(4,0)] hR4' (QA HBS) rfl (by omega) (by omega)
 go_wp2_with (
  (refine hT.mono ?_)
  clear hT
  rintro e w5 ⟨rfl,hR5,hk5⟩
  have hB5:=Jq hR4' hk5 (by simp) hbase hB4'
  have q5:=hB5.frozen 1
  obtain⟨x0,x1,x2,x3⟩:=ZD hB5
  have hlt5:=hB5.lt
  have hz5:=QZ 1 (.int .i64 (0:Nat)) hR5 hbase hB5
  have hK5':=(hK4'.trans hk5 (fun x hx=>.inr (by have:=hR4'.fresh x (by simp at hx;simp[hx]);omega))).trans hz5.2.2 (fun x hx=>.inr (by simp at hx;omega))
  have hB5':Blk (w5.setCell ⟨w.heap.size,1,none⟩ (.int .i64 (0:Nat))) w.heap.size 260 #[.int .i64 0,.int .i64 0,.int .i64 0,.int .i64 0]:=hz5.2.1
  have hR5':=hz5.1
  obtain⟨y0,y1,y2,y3⟩:=ZD hB5')
 clear q5 x0 x1 x2 x3 hR4' hB4' hK4' hR5 hB5 hz5 y0 y1 y2 y3
 have hT:=Kz (k:=4) (n:=0) [(1,0),(1,0),(1,0),(4,0)] [(4,0)] hR5' (QA HBS) rfl (by omega) (by omega)
 go_wp2_with (
  (refine hT.mono ?_)
  clear hT
  rintro e w6 ⟨rfl,hR6,hk6⟩
  have hB6:=Jq hR5' hk6 (by simp) hbase hB5'
  have q6:=hB6.frozen 2
  obtain⟨x0,x1,x2,x3⟩:=ZD hB6
  have hlt6:=hB6.lt
  have hz6:=QZ 2 (.int .i64 (0:Nat)) hR6 hbase hB6
  have hK6':=(hK5'.trans hk6 (fun x hx=>.inr (by have:=hR5'.fresh x (by simp at hx;simp[hx]);omega))).trans hz6.2.2 (fun x hx=>.inr (by simp at hx;omega))
  have hB6':Blk (w6.setCell ⟨w.heap.size,2,none⟩ (.int .i64 (0:Nat))) w.heap.size 260 #[.int .i64 0,.int .i64 0,.int .i64 0,.int .i64 0]:=hz6.2.1
  have hR6':=hz6.1
  obtain⟨y0,y1,y2,y3⟩:=ZD hB6')
 clear q6 x0 x1 x2 x3 hR5' hB5' hK5' hR6 hB6 hz6 y0 y1 y2 y3
 have hT:=Kz (k:=4) (n:=0) [(1,0),(1,0),(1,0),(4,0),(4,0)] [] hR6' (QA HBS) rfl (by omega) (by omega)
 go_wp2_with (
  (refine hT.mono ?_)
  clear hT
  rintro e w7 ⟨rfl,hR7,hk7⟩
  have hB7:=Jq hR6' hk7 (by simp) hbase hB6'
  have q7:=hB7.frozen 3
  obtain⟨x0,x1,x2,x3⟩:=ZD hB7
  have hlt7:=hB7.lt
  have hz7:=QZ 3 (.int .i64 (0:Nat)) hR7 hbase hB7
  have hK7':=(hK6'.trans hk7 (fun x hx=>.inr (by have:=hR6'.fresh x (by simp at hx;simp[hx]);omega))).trans hz7.2.2 (fun x hx=>.inr (by simp at hx;omega))
  have hB7':Blk (w7.setCell ⟨w.heap.size,3,none⟩ (.int .i64 (0:Nat))) w.heap.size 260 #[.int .i64 0,.int .i64 0,.int .i64 0,.int .i64 0]:=hz7.2.1
  have hR7':=hz7.1
  obtain⟨y0,y1,y2,y3⟩:=ZD hB7')
 clear q7 x0 x1 x2 x3 hR6' hB6' hK6' hR7 hB7 hz7
 go_wp2_with (
  (refine(hE _).mono ?_)
  clear hE
  rintro e w9 ⟨rfl,hk9⟩
  have hK9:=hK7'.trans0 hk9
  have hB9:=hB7'.keep0 hk9
  obtain⟨x0,x1,x2,x3⟩:=ZD hB9
  have f0:=hB9.frozen 0
  have f1:=hB9.frozen 1
  have f2:=hB9.frozen 2
  have f3:=hB9.frozen 3
  have hlt9:=hB9.lt)
 have z0:=QZ 0 (.int .i64 0) (hR7'.keep0 hk9) hbase hB9
 have z1:=QZ 1 (.int .i64 0) z0.1 hbase z0.2.1
 have z2:=QZ 2 (.int .i64 0) z1.1 hbase z1.2.1
 have z3:=QZ 3 (.int .i64 0) z2.1 hbase z2.2.1
 have hK:=(((hK9.trans z0.2.2 (fun x hx=>.inr (by simp at hx;omega))).trans z1.2.2 (fun x hx=>.inr (by simp at hx;omega))).trans z2.2.2 (fun x hx=>.inr (by simp at hx;omega))).trans z3.2.2 (fun x hx=>.inr (by simp at hx;omega))
 have y0:=z0.2.1.cell 0
 have y1:=z1.2.1.cell 1
 have y2:=z2.2.1.cell 2
 have y3:=z3.2.1.cell 3
 simp at y0 y1 y2 y3
 refine bodyPost_ret (v:=.tuple #[.agg #[.int .i64 0,.int .i64 0,.int .i64 0,.int .i64 0],.int .i64 2]) (by simp[results,Tryz.results368,go_sem,y0,y1,y2,y3]) rfl ?_
 exact⟨rfl,hK⟩
theorem VAm (seg mount lsn prev:Nat) (h1:seg≤31) (h2:1≤mount∧mount≤2147483647) (h3:1≤lsn∧lsn≤2147483647) (h4:prev≤4294967295) (A:Option Addr) (c:Nat) (w:World) (ha:Rd w A 64 (bys (Yp seg mount lsn prev))) :
 Calls Tryz.prog 368 #[.slice A 64 c] w fun e w'=>e=.returned (.tuple #[.agg #[.int .i64 seg,.int .i64 mount,.int .i64 lsn,.int .i64 prev],.int .i64 0])∧Keep [] w w':=by
 have hlen:=KAB seg mount lsn prev
 obtain⟨t,hbs⟩:∃ t,Yp seg mount lsn prev=fields [(1,75),(1,72),(1,seg),(4,mount),(4,lsn),(4,prev)]++t:=Zx 64 _
 have hE:=fun W=>YAJ seg mount lsn prev h1 h2 h3 h4 W
 simp only[Zu] at hE
 generalize Yp seg mount lsn prev=bs at *
 have hF:=fun W (hk:Keep [] w W)=>YU A 64 c bs W (ha.keep hk) (by omega)
 have hBk:=Blk.new w 260 #[.int .i64 0,.int .i64 0,.int .i64 0,.int .i64 0]
 have HLEN:=ZB hlen
 have HBS:=ZB hbs
 clear hlen hbs
 go_enter Tryz.func368,Tryz.ntmps368
 go_wp2_with (
  (refine(hF _ ((Keep.refl _ _).alloc _)).mono ?_)
  clear hF
  rintro e w2 ⟨r,v,rfl,hR,hk2⟩
  have hB2:=hBk.keep0 hk2
  clear hBk)
 have hkw:Keep [] w w2:=((Keep.refl _ _).alloc _).trans0 hk2
 have hbase:w.heap.size<(w.alloc (.cells #[.int .i64 0,.int .i64 0,.int .i64 0,.int .i64 0] 260)).heap.size:=by simp
 generalize (w.alloc (.cells #[.int .i64 0,.int .i64 0,.int .i64 0,.int .i64 0] 260)).heap.size=base at *
 have hT:=YN w2 _ r 0 2 v _ hR (by rw[QA HLEN];omega)
 go_wp2_with (
  (refine hT.mono ?_)
  clear hT
  rintro e w3 ⟨ut,rfl,-,hR3,hk3⟩)
 have hB3:=Jq hR hk3 (by simp) hbase hB2
 have hK3:Keep [] w w3:=hkw.trans hk3 (fun x hx=>.inr (by have:=hR.fresh x (by simp at hx;simp[hx]);omega))
 clear hR hB2 hkw hk2 hk3
 have hT:=Kz (k:=1) (n:=seg) [(1,75),(1,72)] [(4,mount),(4,lsn),(4,prev)] hR3 (QA HBS) rfl (by omega) (by omega)
 go_wp2_with (
  (refine hT.mono ?_)
  clear hT
  rintro e w4 ⟨rfl,hR4,hk4⟩
  have hB4:=Jq hR3 hk4 (by simp) hbase hB3
  have q4:=hB4.frozen 0
  obtain⟨x0,x1,x2,x3⟩:=ZD hB4
  have hlt4:=hB4.lt
  have hz4:=QZ 0 (.int .i64 (seg:Nat)) hR4 hbase hB4
  have hK4':=(hK3.trans hk4 (fun x hx=>.inr (by have:=hR3.fresh x (by simp at hx;simp[hx]);omega))).trans hz4.2.2 (fun x hx=>.inr (by simp at hx;omega))
  have hB4':Blk (w4.setCell ⟨w.heap.size,0,none⟩ (.int .i64 (seg:Nat))) w.heap.size 260 #[.int .i64 seg,.int .i64 0,.int .i64 0,.int .i64 0]:=hz4.2.1
  have hR4':=hz4.1
  obtain⟨y0,y1,y2,y3⟩:=ZD hB4')
 clear q4 x0 x1 x2 x3 hR3 hB3 hK3 hR4 hB4 hz4 y0 y1 y2 y3
 have hT:=Kz (k:=4) (n:=mount) [(1,75),(1,72),(1,seg)] [(4,lsn),(4,prev)] hR4' (QA HBS) rfl (by omega) (by omega)
 go_wp2_with (
  (refine hT.mono ?_)
  clear hT
  rintro e w5 ⟨rfl,hR5,hk5⟩
  have hB5:=Jq hR4' hk5 (by simp) hbase hB4'
  have q5:=hB5.frozen 1
  obtain⟨x0,x1,x2,x3⟩:=ZD hB5
  have hlt5:=hB5.lt
  have hz5:=QZ 1 (.int .i64 (mount:Nat)) hR5 hbase hB5
  have hK5':=(hK4'.trans hk5 (fun x hx=>.inr (by have:=hR4'.fresh x (by simp at hx;simp[hx]);omega))).trans hz5.2.2 (fun x hx=>.inr (by simp at hx;omega))
  have hB5':Blk (w5.setCell ⟨w.heap.size,1,none⟩ (.int .i64 (mount:Nat))) w.heap.size 260 #[.int .i64 seg,.int .i64 mount,.int .i64 0,.int .i64 0]:=hz5.2.1
  have hR5':=hz5.1
  obtain⟨y0,y1,y2,y3⟩:=ZD hB5')
 clear q5 x0 x1 x2 x3 hR4' hB4' hK4' hR5 hB5 hz5 y0 y1 y2 y3
 have hT:=Kz (k:=4) (n:=lsn) [(1,75),(1,72),(1,seg),(4,mount)] [(4,prev)] hR5' (QA HBS) rfl (by omega) (by omega)
 go_wp2_with (
  (refine hT.mono ?_)
  clear hT
  rintro e w6 ⟨rfl,hR6,hk6⟩
  have hB6:=Jq hR5' hk6 (by simp) hbase hB5'
  have q6:=hB6.frozen 2
  obtain⟨x0,x1,x2,x3⟩:=ZD hB6
  have hlt6:=hB6.lt
  have hz6:=QZ 2 (.int .i64 (lsn:Nat)) hR6 hbase hB6
  have hK6':=(hK5'.trans hk6 (fun x hx=>.inr (by have:=hR5'.fresh x (by simp at hx;simp[hx]);omega))).trans hz6.2.2 (fun x hx=>.inr (by simp at hx;omega))
  have hB6':Blk (w6.setCell ⟨w.heap.size,2,none⟩ (.int .i64 (lsn:Nat))) w.heap.size 260 #[.int .i64 seg,.int .i64 mount,.int .i64 lsn,.int .i64 0]:=hz6.2.1
  have hR6':=hz6.1
  obtain⟨y0,y1,y2,y3⟩:=ZD hB6')
 clear q6 x0 x1 x2 x3 hR5' hB5' hK5' hR6 hB6 hz6 y0 y1 y2 y3
 have hT:=Kz (k:=4) (n:=prev) [(1,75),(1,72),(1,seg),(4,mount),(4,lsn)] [] hR6' (QA HBS) rfl (by omega) (by omega)
 go_wp2_with (
  (refine hT.mono ?_)
  clear hT
  rintro e w7 ⟨rfl,hR7,hk7⟩
  have hB7:=Jq hR6' hk7 (by simp) hbase hB6'
  have q7:=hB7.frozen 3
  obtain⟨x0,x1,x2,x3⟩:=ZD hB7
  have hlt7:=hB7.lt
  have hz7:=QZ 3 (.int .i64 (prev:Nat)) hR7 hbase hB7
  have hK7':=(hK6'.trans hk7 (fun x hx=>.inr (by have:=hR6'.fresh x (by simp at hx;simp[hx]);omega))).trans hz7.2.2 (fun x hx=>.inr (by simp at hx;omega))
  have hB7':Blk (w7.setCell ⟨w.heap.size,3,none⟩ (.int .i64 (prev:Nat))) w.heap.size 260 #[.int .i64 seg,.int .i64 mount,.int .i64 lsn,.int .i64 prev]:=hz7.2.1
  have hR7':=hz7.1
  obtain⟨y0,y1,y2,y3⟩:=ZD hB7')
 clear q7 x0 x1 x2 x3 hR6' hB6' hK6' hR7 hB7 hz7
 go_wp2_with (
  (refine(hE _).mono ?_)
  clear hE
  rintro e w9 ⟨u,rfl,hu,hk9⟩
  obtain⟨UA,uc,rfl,_⟩:=QB hu
  have hK9:=hK7'.trans0 hk9
  have hB9:=hB7'.keep0 hk9
  obtain⟨x0,x1,x2,x3⟩:=ZD hB9
  have f0:=hB9.frozen 0
  have f1:=hB9.frozen 1
  have f2:=hB9.frozen 2
  have f3:=hB9.frozen 3
  have hlt9:=hB9.lt
  have hEq:=JN UA A 64 64 uc c bs bs w9 (Rd.of_own hu) (ha.keep hK9))
 go_wp2_with (refine hEq.mono ?_;clear hEq;rintro e w' ⟨rfl,rfl⟩)
 have z0:=QZ 0 (.int .i64 (seg:Nat)) (hR7'.keep0 hk9) hbase hB9
 have z1:=QZ 1 (.int .i64 (mount:Nat)) z0.1 hbase z0.2.1
 have z2:=QZ 2 (.int .i64 (lsn:Nat)) z1.1 hbase z1.2.1
 have z3:=QZ 3 (.int .i64 (prev:Nat)) z2.1 hbase z2.2.1
 have hK:=(((hK9.trans z0.2.2 (fun x hx=>.inr (by simp at hx;omega))).trans z1.2.2 (fun x hx=>.inr (by simp at hx;omega))).trans z2.2.2 (fun x hx=>.inr (by simp at hx;omega))).trans z3.2.2 (fun x hx=>.inr (by simp at hx;omega))
 have y0:=z0.2.1.cell 0
 have y1:=z1.2.1.cell 1
 have y2:=z2.2.1.cell 2
 have y3:=z3.2.1.cell 3
 simp at y0 y1 y2 y3
 refine bodyPost_ret (v:=.tuple #[.agg #[.int .i64 seg,.int .i64 mount,.int .i64 lsn,.int .i64 prev],.int .i64 0]) (by simp[results,Tryz.results368,go_sem,y0,y1,y2,y3]) rfl ?_
 exact⟨rfl,hK⟩
end
section
open Go.RowKit
end
section
open Go.RowKit
theorem QAm (A:Option Addr) (c:Nat) (w:World):Calls Tryz.prog 375 #[.slice A 64 c] w fun e w'=>e=.returned (.bool false)∧w=w':=by
 go_enter Tryz.func375,Tryz.ntmps375
 go_wp2
 go_ret
 exact⟨rfl,rfl⟩
theorem QAD (A:Option Addr) (n c:Nat) (ls:List (Value×List UInt8)) (w:World) (ha:Rws w A n ls) (h:∀ p∈ls,p.2.length=64) (hn:n≤1000000) :
 Calls Tryz.prog 383 #[.slice A n c,.func (.func 375) #[] #[]] w fun e w'=>e=.returned (.int .i64 (-1))∧Keep [] w w':=by
 have HL:=ZB ha.len
 go_enter Tryz.func383,Tryz.ntmps383
 go_wp2_with fail
 go_loopw [5,8] (fun _ i wr=>∃ k:Nat,k≤n∧i=.int .i64 k∧Keep [] w wr) (fun _ i _=>n-(intOf i).toNat)
 case atStart=>exact⟨0,Nat.zero_le _,rfl,Keep.refl _ _⟩
 case round=>
  obtain⟨k,hk,rfl,hkr⟩:=hrel
  by_cases hlt:k<n
  · have hkl:k<ls.length:=by rw[QA HL];exact hlt
    have hltI:((k:Nat):Int)<(n:Nat):=by omega
    obtain⟨b,o,rfl,hb,hc,hr⟩:=(ha.keep hkr).at_ hlt hkl
    have h64:=h _ (List.getElem_mem hkl)
    generalize ls[k]=p at *
    obtain⟨pv,pb⟩:=p
    obtain⟨PA,pn,pc,hpv,h1,h2,h3⟩:=hr
    simp only at hpv
    subst hpv
    have hpl:pb.length=pn:=by simpa using h3.1
    obtain rfl:64=pn:=by rw[← hpl];exact h64.symm
    clear hpl h64
    go_wp2_with (refine(QAm _ _ _).mono ?_;rintro e w' ⟨rfl,rfl⟩)
    go_roundw
    case rel=>exact⟨k+1,by omega,by go_num,hkr⟩
    case measure=>simp[intOf];omega
  · obtain rfl:n=k:=by omega
    go_wp2
    go_ret
    exact⟨rfl,hkr⟩
theorem Jy (A:Option Addr) (n c:Nat) (ls:List (Value×List UInt8)) (w:World) (ha:Rws w A n ls) (h:∀ p∈ls,p.2.length=64) (hn:n≤1000000) :
 Calls Tryz.prog 374 #[.slice A n c,.func (.func 375) #[] #[]] w fun e w'=>e=.returned (.bool false)∧Keep [] w w':=by
 have hT:=QAD A n c ls w ha h hn
 go_enter Tryz.func374,Tryz.ntmps374
 go_wp2_with (refine hT.mono ?_;clear hT;rintro e w' ⟨rfl,hk⟩)
 go_ret
 exact⟨rfl,hk⟩
theorem KR (n lo hi:Int) (w:World) (h:lo≤n∧n≤hi):Calls Tryz.prog 373 #[.int .i64 n,.int .i64 lo,.int .i64 hi] w fun e w'=>e=.returned (.bool true)∧w=w':=by
 obtain⟨h1,h2⟩:=h
 go_enter Tryz.func373,Tryz.ntmps373
 go_wp2
 go_ret
 exact⟨rfl,rfl⟩
def YE (is:List PItem):Nat:=(is.filter (·.loaded)).length
theorem JX (is:List PItem) (i:PItem):YE (is++[i])=YE is+if i.loaded then 1 else 0:=by
 unfold YE
 rw[List.filter_append,List.length_append]
 cases h:i.loaded <;> simp[h]
theorem VH (is:List PItem):YE is≤is.length:=List.length_filter_le _ _
theorem ZC {w:World} {g:Nat} {t:TypeId} {x0 x1 x2 x3 x4:Value} (h:Blk w g t #[x0,x1,x2,x3,x4]) :
 w.cell? ⟨g,0,none⟩=some x0∧w.cell? ⟨g,1,none⟩=some x1∧w.cell? ⟨g,2,none⟩=some x2∧w.cell? ⟨g,3,none⟩=some x3∧w.cell? ⟨g,4,none⟩=some x4:=
 ⟨by simpa using h.cell 0,by simpa using h.cell 1,by simpa using h.cell 2,by simpa using h.cell 3,by simpa using h.cell 4⟩
theorem YAP (mount lsn prev:Nat) (h2:1≤mount∧mount≤2147483647) (h3:1≤lsn∧lsn≤2147483647) (h4:prev≤4294967295) (g n c:Nat) (is:List PItem) (A:Option Addr) (m bc:Nat) (ls:List (Value×List UInt8)) (w:World)
 (ha:Rd w (some ⟨g,0,none⟩) (n*4) (is.flatMap itc)) (hl:is.length=n) (hm:∀ i∈is,i.May) (h1:1≤n) (h6:n≤6) (hb:Rws w A m ls) (h64:∀ p∈ls,p.2.length=64) (hlo:m=YE is) :
 Calls Tryz.prog 342 #[.agg #[.int .i64 mount,.int .i64 lsn,.int .i64 prev,.slice (some ⟨g,0,none⟩) n c,.slice A m bc]] w fun e w'=>e=.returned (.bool true)∧Keep [] w w':=by
 have hm6:m≤6:=by have:=VH is;omega
 have hT1:=fun W=>KR mount 1 2147483647 W ⟨by omega,by omega⟩
 have hT2:=fun W=>KR lsn 1 2147483647 W ⟨by omega,by omega⟩
 have hT3:=fun W=>KR prev 0 4294967295 W ⟨by omega,by omega⟩
 have hT4:=fun W=>KR n 1 6 W ⟨by omega,by omega⟩
 obtain⟨sf,hsf⟩:∃ sf:Nat→Nat,∀ k,sf k=YE (is.take k):=⟨_,fun _=>rfl⟩
 have hs0:sf 0=0:=by rw[hsf];simp[YE]
 have hsn:sf n=m:=by rw[hsf,List.take_of_length_le (by omega),hlo]
 have hss:∀ k (hk:k<is.length),sf (k+1)=sf k+if is[k].loaded then 1 else 0:=fun k hk=>by rw[hsf,hsf,List.take_succ_eq_append_getElem hk,JX]
 have hsle:∀ k,k≤n→sf k≤6:=fun k hk=>by rw[hsf];have:=VH (is.take k);rw[List.length_take] at this;omega
 have HSS:=ZB hss
 have HSN:=ZB hsn
 have HL:=ZB hl
 clear hss hsn hsf hlo hl
 have hBk:=Blk.new w 239 #[.int .i64 mount,.int .i64 lsn,.int .i64 prev,.slice (some ⟨g,0,none⟩) n c,.slice A m bc]
 go_enter Tryz.func342,Tryz.ntmps342
 go_wp2_with (first | (refine(hT1 _).mono ?_;clear hT1;rintro e w' ⟨rfl,rfl⟩) | (refine(hT2 _).mono ?_;clear hT2;rintro e w' ⟨rfl,rfl⟩) | (refine(hT3 _).mono ?_;clear hT3;rintro e w' ⟨rfl,rfl⟩) | (refine(hT4 _).mono ?_;clear hT4;rintro e w' ⟨rfl,rfl⟩))
 obtain⟨w1,hw1⟩:∃ w1,w1=w.alloc (.cells #[.int .i64 mount,.int .i64 lsn,.int .i64 prev,.slice (some ⟨g,0,none⟩) n c,.slice A m bc] 239):=⟨_,rfl⟩
 have hk1:Keep [] w w1:=by rw[hw1];exact(Keep.refl _ _).alloc _
 rw[← hw1] at hBk ⊢
 clear hw1
 go_loopw [3,5,32] (fun z _ i wr=>∃ k:Nat,k≤n∧i=.int .i64 k∧z=.int .i64 (sf k:Nat)∧Keep [] w wr∧Blk wr w.heap.size 239 #[.int .i64 mount,.int .i64 lsn,.int .i64 prev,.slice (some ⟨g,0,none⟩) n c,.slice A m bc]) (fun _ _ i _=>n-(intOf i).toNat)
 case atStart=>exact⟨0,Nat.zero_le _,rfl,by rw[hs0];rfl,hk1,hBk⟩
 case round=>
  clear hk1 hBk hs0
  obtain⟨k,hk,rfl,rfl,hK,hBk⟩:=hrel
  by_cases hlt:k<n
  · have hkl:k<is.length:=by rw[QA HL];exact hlt
    have hltI:((k:Nat):Int)<(n:Nat):=by omega
    have hgl:g<wr.heap.size:=(YC JE (ha.keep hK) hkl (j:=0) (by omega)).1
    have c0:=(YC JE (ha.keep hK) hkl (j:=0) (by omega)).2
    have c1:=(YC JE (ha.keep hK) hkl (j:=1) (by omega)).2
    have c2:=(YC JE (ha.keep hK) hkl (j:=2) (by omega)).2
    have c3:=(YC JE (ha.keep hK) hkl (j:=3) (by omega)).2
    have hmi:=hm _ (List.getElem_mem hkl)
    have hT:=fun W=>Vi _ hmi W
    have hTl:=fun W=>Ke _ hmi W
    have HS:=ZB (QA HSS k hkl)
    have hq6:=hsle k hk
    clear hsle
    generalize is[k]=it at *
    generalize hq2:sf (k+1)=q2 at *
    generalize hq:sf k=q at *
    obtain⟨ik,ib,ic,iv⟩:=it
    generalize hlb:PItem.loaded ⟨ik,ib,ic,iv⟩=lb at *
    simp only[itc,List.getElem?_cons_zero,List.getElem?_cons_succ,Nat.add_zero] at c0 c1 c2 c3 hT hTl
    clear hmi hlb hq
    have hBi:=Blk.new wr 114 #[.int .i64 ik,.int .i64 ib,.int .i64 ic,.int .i64 iv]
    cases lb
    all_goals
     go_wp2_with (
      (refine(hT _).mono ?_)
      rintro e w2 ⟨rfl,hk2⟩
      clear hT
      have hB1:=hBi.keep0 hk2
      clear hBi
      obtain⟨d0,d1,d2,d3⟩:=ZD hB1
      have hlt2:=hB1.lt)
     go_wp2_with (
      (refine(hTl _).mono ?_)
      rintro e w3 ⟨rfl,hk3⟩
      clear hTl)
     have hK3:Keep [] wr w3:=(((Keep.refl _ _).alloc _).trans0 hk2).trans0 hk3
     go_roundw
     case rel=>exact⟨k+1,by omega,by go_num,by rw[hq2,QA HS];simp,hK.trans0 hK3,hBk.keep0 hK3⟩
     case measure=>simp[intOf];omega
  · obtain rfl:n=k:=by omega
    rw[QA HSN]
    clear hsle
    have hTc:=fun(W:World) (hk:Keep [] wr W)=>Jy A m bc ls W (hb.keep (hK.trans0 hk)) h64 (by omega)
    obtain⟨c0,c1,c2,c3,c4⟩:=ZC hBk
    go_wp2_with (refine(hTc _ ?_).mono ?_;rotate_left;rintro e w' ⟨rfl,hk2⟩;rotate_right;exact Keep.refl _ _)
    go_ret
    exact⟨rfl,hK.trans0 hk2⟩
end
end Go.Proofs.YthgphmfipnjllaaGreat
