/-
  A part of the proof: lemmas, and contracts of functions; their conditions stand in them.
-/
import Derived.Test.YtmoagodllhdemaaGreatE08
import Derived.Test.YtmoagodllhdemaaGreatE10
import Derived.Test.YtmoagodllhdemaaGreatE01
namespace Go.Proofs.YtmoagodllhdemaaGreat
set_option linter.unusedSimpArgs false
set_option linter.unusedVariables false
set_option maxHeartbeats 4000000
set_option maxRecDepth 20000
section
open Go.RowKit
structure PItem where
 k:Nat
 b:Nat
 c:Nat
 v:Nat
def itc (i:PItem):List Value:=[.int .i64 i.k,.int .i64 i.b,.int .i64 i.c,.int .i64 i.v]
theorem ZK (i:PItem):(itc i).length=4:=rfl
def PItem.May (i:PItem):Prop:=
 ((i.k=1∨i.k=5)∧i.b≤63∧i.c=0∧i.v=0)∨((i.k=2∨i.k=6)∧i.b≤63∧1≤i.c∧i.c+i.b≤64∧i.v=0)∨(i.k=3∧i.b=0∧i.c=0∧1≤i.v∧i.v≤2147483647) ∨
 (i.k=4∧i.b≤63∧i.c=0∧1≤i.v∧i.v≤4095)∨(i.k=7∧i.b=0∧i.c=0∧i.v≤31)
def PItem.loaded (i:PItem):Bool:=i.k == 1 || i.k == 4 || i.k == 5
theorem PItem.May.bounds {i:PItem} (h:i.May):i.k≤7∧i.b≤63∧i.c≤64∧i.v≤2147483647:=by
 rcases h with ⟨h | h,_⟩ | ⟨h | h,_⟩ | ⟨h,_⟩ | ⟨h,_⟩ | ⟨h,_⟩ <;> omega
theorem VAI (n lo hi:Int) (w:World):Calls Tryz.prog 322 #[.int .i64 n,.int .i64 lo,.int .i64 hi] w fun e w'=>e = .returned (.bool (decide (lo≤n∧n≤hi)))∧w=w':=by
 by_cases h1:lo≤n
 · by_cases h2:n≤hi
   all_goals
    go_enter Tryz.func322,Tryz.ntmps322
    go_wp2
    go_ret
    exact ⟨by simp [h1,h2],rfl⟩
 · go_enter Tryz.func322,Tryz.ntmps322
   go_wp2
   go_ret
   exact ⟨by simp;omega,rfl⟩
theorem Kd (i:PItem) (h:i.May) (w:World):Calls Tryz.prog 292 #[.agg (itc i).toArray] w fun e w'=>e = .returned (.bool true)∧Keep [] w w':=by
 obtain ⟨k,b,c,v⟩:=i
 simp only [itc]
 have hW:=fun n lo hi W (h:lo≤n∧n≤hi)=>(by have:=VAI n lo hi W;rwa [decide_eq_true h] at this:Calls Tryz.prog 322 #[.int .i64 n,.int .i64 lo,.int .i64 hi] W fun e w'=>e = .returned (.bool true)∧W=w')
 have hBk:=Blk.new w 329 #[.int .i64 k,.int .i64 b,.int .i64 c,.int .i64 v]
 rcases h with ⟨h | h,h1,h2,h3⟩ | ⟨h | h,h1,h2,h3,h4⟩ | ⟨h,h1,h2,h3,h4⟩ | ⟨h,h1,h2,h3,h4⟩ | ⟨h,h1,h2,h3⟩
 all_goals
  simp only at h h1 h2 h3
  try simp only at h4
  subst h
  try subst h2
  try subst h3
  try subst h4
  try subst h1
  go_enter Tryz.func292,Tryz.ntmps292
  go_wp2_with (go_at_call 322;refine (hW _ _ _ _ ⟨by omega,by omega⟩).mono ?_;rintro e w' ⟨rfl,rfl⟩)
  go_ret
  exact ⟨rfl,(Keep.refl _ _).alloc _⟩
theorem Ym (i:PItem) (h:i.May) (w:World):Calls Tryz.prog 291 #[.agg (itc i).toArray] w fun e w'=>e = .returned (.bool i.loaded)∧Keep [] w w':=by
 have hM:=fun W=>Kd i h W
 obtain ⟨k,b,c,v⟩:=i
 simp only [itc] at hM ⊢
 have hb:=h.bounds.1
 simp only at hb
 have hk:k=1∨k=2∨k=3∨k=4∨k=5∨k=6∨k=7:=by rcases h with ⟨h | h,_⟩ | ⟨h | h,_⟩ | ⟨h,_⟩ | ⟨h,_⟩ | ⟨h,_⟩ <;> simp only at h <;> omega
 clear h hb
 have hbl:=fun (w1:World) (hk:Keep [] (w.alloc (.cells #[.int .i64 k,.int .i64 b,.int .i64 c,.int .i64 v] 329)) w1)=>(Blk.new w 329 #[.int .i64 k,.int .i64 b,.int .i64 c,.int .i64 v]).keep0 hk
 rcases hk with rfl | rfl | rfl | rfl | rfl | rfl | rfl
 all_goals
  go_enter Tryz.func291,Tryz.ntmps291
  go_wp2_with (refine (hM _).mono ?_;clear hM;rintro e w1 ⟨rfl,hk1⟩;have hc0:=(hbl _ hk1).cell 0;simp at hc0)
  go_ret
  exact ⟨rfl,((Keep.refl _ _).alloc _).trans0 hk1⟩
end
section
open Go.RowKit
def ZAC (N:Nat) (H:List UInt8):List UInt8:=laid (laid (List.replicate N 0) 0 H) (N-4) (le 4 (YP ((laid (List.replicate N 0) 0 H).take (N-4))))
theorem Qo (N:Nat) (H:List UInt8) (h4:4≤N) (h:H.length≤N):(ZAC N H).length=N:=by
 unfold ZAC
 rw [KE _ _ _ (by rw [length_le,JG _ _ h];omega),JG _ _ h]
theorem JAf {w1 W0:World} {r N:Nat} {v:Value} {H:List UInt8} {u:Value} (hu:W0.ownsRow w1.heap.size 5 1 u N (bys (laid (List.replicate N 0) 0 H))) (h4:4≤N) (hn:N≤65536) (h:H.length≤N) :
 Calls Tryz.prog 160 #[u] W0 fun e w'=>e = .returned u∧w'.ownsRow w1.heap.size 5 1 u N (bys (ZAC N H))∧Keep u.ownBlock.toList W0 w':=by
 have hl:=JG N H h
 have:=Zq w1.heap.size u (laid (List.replicate N 0) 0 H) W0 (by rw [hl];exact hu) (by omega) (by omega)
 rw [hl] at this
 exact this
theorem QW (n lo hi:Int) (w:World) (h:lo≤n∧n≤hi):Calls Tryz.prog 327 #[.int .i64 n,.int .i64 lo,.int .i64 hi] w fun e w'=>e = .returned (.bool true)∧w=w':=by
 obtain ⟨h1,h2⟩:=h
 go_enter Tryz.func327,Tryz.ntmps327
 go_wp2
 go_ret
 exact ⟨rfl,rfl⟩
def ZAb (seg mount lsn prev:Nat):List UInt8:=([]++[75,72,seg].flatMap (le 1))++[mount,lsn,prev].flatMap (le 4)
theorem VT (seg mount lsn prev:Nat):(ZAb seg mount lsn prev).length=15:=by simp [ZAb,JD]
theorem JAd (seg mount lsn prev:Nat) (h1:seg≤31) (h2:1≤mount∧mount≤2147483647) (h3:1≤lsn∧lsn≤2147483647) (h4:prev≤4294967295) (w:World) :
 Calls Tryz.prog 296 #[.agg #[.int .i64 seg,.int .i64 mount,.int .i64 lsn,.int .i64 prev]] w fun e w'=>e = .returned (.bool true)∧Keep [] w w':=by
 have hT1:=fun W=>QW seg 0 31 W ⟨by omega,by omega⟩
 have hT2:=fun W=>QW mount 1 2147483647 W ⟨by omega,by omega⟩
 have hT3:=fun W=>QW lsn 1 2147483647 W ⟨by omega,by omega⟩
 have hT4:=fun W=>QW prev 0 4294967295 W ⟨by omega,by omega⟩
 go_enter Tryz.func296,Tryz.ntmps296
 go_wp2_with (first | (refine (hT1 _).mono ?_;clear hT1;rintro e w' ⟨rfl,rfl⟩) | (refine (hT2 _).mono ?_;clear hT2;rintro e w' ⟨rfl,rfl⟩) | (refine (hT3 _).mono ?_;clear hT3;rintro e w' ⟨rfl,rfl⟩) | (refine (hT4 _).mono ?_;clear hT4;rintro e w' ⟨rfl,rfl⟩))
 go_ret
 exact ⟨rfl,(Keep.refl _ _).alloc _⟩
theorem KO {w:World} {g:Nat} {t:TypeId} {x0 x1 x2 x3:Value} (h:Blk w g t #[x0,x1,x2,x3]) :
 w.cell? ⟨g,0,none⟩=some x0∧w.cell? ⟨g,1,none⟩=some x1∧w.cell? ⟨g,2,none⟩=some x2∧w.cell? ⟨g,3,none⟩=some x3:=
 ⟨by simpa using h.cell 0,by simpa using h.cell 1,by simpa using h.cell 2,by simpa using h.cell 3⟩
theorem VAZ (seg mount lsn prev:Nat) (h1:seg≤31) (h2:1≤mount∧mount≤2147483647) (h3:1≤lsn∧lsn≤2147483647) (h4:prev≤4294967295) (w:World) :
 Calls Tryz.prog 261 #[.agg #[.int .i64 seg,.int .i64 mount,.int .i64 lsn,.int .i64 prev]] w fun e w'=>∃ u,e = .returned (.tuple #[u,.int .i64 0])∧w'.ownsRow w.heap.size 5 1 u 64 (bys (ZAC 64 (ZAb seg mount lsn prev)))∧Keep [] w w':=by
 have hT:=fun W=>JAd seg mount lsn prev h1 h2 h3 h4 W
 have hbl:=Blk.new w 335 #[.int .i64 seg,.int .i64 mount,.int .i64 lsn,.int .i64 prev]
 go_enter Tryz.func261,Tryz.ntmps261
 go_wp2_with (
  (refine (hT _).mono ?_)
  rintro r w1 ⟨rfl,hk1⟩
  clear hT
  have hB1:=hbl.keep0 hk1
  obtain ⟨c0,c1,c2,c3⟩:=KO hB1
  have hlt:=hB1.lt)
 have hN:=Jy 64 (by omega) w1
 go_wp2_with (
  (refine hN.mono ?_)
  rintro r w2 ⟨g,u,rfl,hR0,hK⟩
  clear hN
  have hB2:=hB1.keep0 hK
  clear c0 c1 c2 c3
  obtain ⟨c0,c1,c2,c3⟩:=KO hB2
  have hlt2:=hB2.lt)
 have hR:RowAt w2 w1.heap.size g u (laid (List.replicate 64 0) 0 []) ([]:List UInt8).length:=by rw [laid_nil];exact hR0
 clear hR0
 have hP:=KZ (k:=1) hK hR (by omega) [75,72,seg] (by simp;omega) (by simp) (by simp [JD]) #[.int .i64 75,.int .i64 72,.int .i64 seg] rfl 3 rfl
 go_wp2_with (
  (refine hP.mono ?_)
  clear hP
  rintro r w3 ⟨rfl,hR3,hK3⟩
  clear hR hK hB2 c0 c1 c2 c3 hlt2
  have hB2:=hB1.keep0 hK3
  obtain ⟨c0,c1,c2,c3⟩:=KO hB2
  have hlt2:=hB2.lt
  have hR:=hR3
  have hK:=hK3
  clear hR3 hK3)
 have hP:=KZ (k:=4) hK hR (by omega) [mount,lsn,prev] (by simp;omega) (by simp) (by simp [JD]) #[.int .i64 mount,.int .i64 lsn,.int .i64 prev] rfl 3 rfl
 go_wp2_with (
  (refine hP.mono ?_)
  clear hP
  rintro r w3 ⟨rfl,hR3,hK3⟩
  clear hR hK hB2 c0 c1 c2 c3 hlt2
  have hBy:=Qh w3 _ _ _ _ _ hR3)
 rw [show ([]++[75,72,seg].flatMap (le 1))++[mount,lsn,prev].flatMap (le 4)=ZAb seg mount lsn prev from rfl,JG _ _ (by rw [VT];omega)] at hBy
 go_wp2_with (
  (refine hBy.mono ?_)
  clear hBy
  rintro r w4 ⟨u4,rfl,hu4,hk4⟩
  have hSe:=JAf (w1:=w3) (r:=0) (v:=u4) hu4 (by omega) (by omega) (by rw [VT];omega))
 go_wp2_with (
  (refine hSe.mono ?_)
  clear hSe
  rintro r w5 ⟨rfl,hu5,hk5⟩)
 go_ret2
 have hkA:Keep [] w w3:=(((Keep.refl _ _).alloc _).trans0 hk1).trans0 hK3
 refine ⟨u4,rfl,YC hu5 hkA.size,(hkA.trans0 hk4).trans hk5 (fun x hx => .inr ?_)⟩
 exact Nat.le_trans hkA.size (own_mem hu4 hx).1
end
section
open Go.RowKit
def RowX (w:World) (base r:Nat) (v:Value) (N a:Nat):Prop:=∃ bs,bs.length=N∧RowAt w base r v bs a
theorem RowX.keep0 {w w':World} {base r N a:Nat} {v:Value} (h:RowX w base r v N a) (hk:Keep [] w w'):RowX w' base r v N a:=by
 obtain ⟨bs,h1,h2⟩:=h;exact ⟨bs,h1,h2.keep0 hk⟩
theorem RowX.fresh {w:World} {base r N a:Nat} {v:Value} (h:RowX w base r v N a):∀ x∈r :: v.ownBlock.toList,base≤x:=by
 obtain ⟨bs,h1,h2⟩:=h;exact h2.fresh
theorem RowX.blk {w w':World} {base r N a g:Nat} {v:Value} {t:TypeId} {cs:Array Value} (h:RowX w base r v N a) (hk:Keep (r :: v.ownBlock.toList) w w') (hB:Blk w g t cs) (h1:t≠233) (h2:5≠t):Blk w' g t cs:=by
 obtain ⟨bs,_,h⟩:=h
 refine hB.keep hk (fun hm=>?_)
 rcases List.mem_cons.1 hm with rfl | hm
 · exact Blk.ne_ (t:=t) hB h.blk h1 rfl
 · exact own_blk_ne h.own hB h2 (by simpa using hm)
theorem ZAv (n:Nat) (hn:n≤65536) (w:World) :
 Calls Tryz.prog 157 #[.int .i64 (n:Nat)] w fun e w'=>∃ r v,e = .returned (.pointer (some ⟨r,0,none⟩))∧RowX w' w.heap.size r v n 0∧Keep [] w w':=by
 refine (Jy n hn w).mono ?_
 rintro e w' ⟨r,v,rfl,h,hk⟩
 exact ⟨r,v,rfl,⟨_,by simp,h⟩,hk⟩
theorem Qr {W0:World} {base r k N a:Nat} {v:Value} (hR:RowX W0 base r v N a) (hk:k=1∨k=2∨k=4) (zs:List Nat) (hz:∀ z∈zs,z<256 ^ k) (hm0:0<zs.length) (hm:a+k*zs.length≤N)
 (cs:Array Value) (hcs:cs.toList=VO zs) (m:Nat) (hml:m=zs.length) :
 Calls Tryz.prog 158 #[.pointer (some ⟨r,0,none⟩),.int .i64 (k:Nat),.slice (some ⟨W0.heap.size,0,none⟩) m m] (W0.alloc (.cells cs 3)) fun e w'=>e = .returned (.bool true) ∧
  RowX w' base r v N (a+k*m)∧Keep (r :: v.ownBlock.toList) W0 w':=by
 subst hml
 obtain ⟨bs,h1,h2⟩:=hR
 have hRA:RowAt (W0.alloc (.cells cs 3)) base r v bs a:=h2.keep0 ((Keep.refl _ _).alloc _)
 have hrd:Rd (W0.alloc (.cells cs 3)) (some ⟨W0.heap.size,0,none⟩) zs.length (VO zs):=by
  have hl:cs.toList.length=zs.length:=by rw [hcs,length_nats]
  have:=Rd.of_blk (n:=zs.length) (Blk.new W0 3 cs) (by simpa using Nat.le_of_eq hl.symm)
  rw [hcs,List.take_of_length_le (by simp)] at this
  exact this
 refine (ZAV _ base r a k v bs hRA hk _ zs.length zs.length zs hrd (fun p hp=>?_) hz hm0 (by omega)).mono ?_
 · cases hp
   intro hx
   rcases List.mem_cons.1 hx with e | hx
   · exact absurd (show W0.heap.size=r from e) (Nat.ne_of_gt h2.blk.lt)
   · exact absurd (own_mem h2.own hx).2 (Nat.lt_irrefl _)
 · rintro e w' ⟨rfl,h3,h4⟩
   refine ⟨rfl,⟨_,?_,h3⟩,((Keep.refl _ _).alloc _).trans h4 (fun x hx => .inl hx)⟩
   rw [KE _ _ _ (by rw [JD];omega)];exact h1
theorem QAz {W0:World} {base r N a:Nat} {v:Value} (hR:RowX W0 base r v N a) (S:Option Addr) (m sc:Nat) (ys:List UInt8) (hr:Rd W0 S m (bys ys)) (hm:a+m≤N) :
 Calls Tryz.prog 159 #[.pointer (some ⟨r,0,none⟩),.slice S m sc] W0 fun e w'=>e = .returned (.bool true)∧RowX w' base r v N (a+m)∧Keep (r :: v.ownBlock.toList) W0 w':=by
 obtain ⟨bs,h1,h2⟩:=hR
 have hl:ys.length=m:=by simpa using hr.1
 refine (VAM _ _ r _ v _ h2 S m sc ys hr (by omega)).mono ?_
 rintro e w' ⟨rfl,h3,h4⟩
 refine ⟨rfl,⟨_,?_,h3⟩,h4⟩
 rw [KE _ _ _ (by omega)];exact h1
theorem XAw {W0:World} {base r N a m:Nat} {v:Value} (hR:RowX W0 base r v N a) (hm:a+m≤N) :
 Calls Tryz.prog 93 #[.pointer (some ⟨r,0,none⟩),.int .i64 (m:Nat)] W0 fun e w'=>∃ u,e = .returned (.tuple #[u,.bool true])∧RowX w' base r v N (a+m)∧Keep (r :: v.ownBlock.toList) W0 w':=by
 obtain ⟨bs,h1,h2⟩:=hR
 refine (Vd _ _ r _ m v _ h2 (by omega)).mono ?_
 rintro e w' ⟨u,rfl,h3,h4,h5⟩
 exact ⟨u,rfl,⟨bs,h1,h4⟩,h5.sub (by simp)⟩
theorem Xm {W0:World} {base r N a:Nat} {v:Value} (hR:RowX W0 base r v N a) :
 Calls Tryz.prog 161 #[.pointer (some ⟨r,0,none⟩)] W0 fun e w'=>∃ u bs,e = .returned u∧bs.length=N∧w'.ownsRow W0.heap.size 5 1 u N (bys bs)∧Keep [] W0 w':=by
 obtain ⟨bs,h1,h2⟩:=hR
 refine (Qh _ _ r _ v _ h2).mono ?_
 rintro e w' ⟨u,rfl,h3,h4⟩
 exact ⟨u,bs,rfl,h1,by rw [← h1];exact h3,h4⟩
theorem ZAq {W0:World} {base N:Nat} {u:Value} {bs:List UInt8} (hl:bs.length=N) (hu:W0.ownsRow base 5 1 u N (bys bs)) (h4:4≤N) (hn:N≤65536) :
 Calls Tryz.prog 160 #[u] W0 fun e w'=>∃ cs,e = .returned u∧cs.length=N∧w'.ownsRow base 5 1 u N (bys cs)∧Keep u.ownBlock.toList W0 w':=by
 subst hl
 refine (Zq base u bs W0 hu h4 (by omega)).mono ?_
 rintro e w' ⟨rfl,h3,h5⟩
 refine ⟨_,rfl,?_,h3,h5⟩
 simpa using h3.1
theorem VJ {α:Type} {f:α→List Value} {s:Nat} (hf:∀ x,(f x).length=s) {w:World} {g n:Nat} {xs:List α} (h:Rd w (some ⟨g,0,none⟩) (n*s) (xs.flatMap f)) {i j:Nat} (hi:i<xs.length) (hj:j<s) :
 g<w.heap.size∧w.cell? ⟨g,i*s+j,none⟩=(f xs[i])[j]? := by
 have hx:=XJ hf xs i j hi hj
 have hfl:j<(f xs[i]).length:=by rw [hf xs[i]];exact hj
 obtain ⟨u,hu⟩:∃ u,(f xs[i])[j]? = some u:=⟨_,List.getElem?_eq_getElem hfl⟩
 rw [hu] at hx ⊢
 have hn:0<n*s:=by
  have:=(List.getElem?_eq_some_iff.1 hx).1
  rw [h.1] at this;omega
 obtain ⟨b,o,he,hb,hc⟩:=h.2 hn
 cases he
 exact ⟨hb,by simpa using hc _ _ hx⟩
end
section
open Go.RowKit
theorem ZAc (g n c:Nat) (is:List PItem) (w:World) (ha:Rd w (some ⟨g,0,none⟩) (n*4) (is.flatMap itc)) (hl:is.length=n) (hm:∀ i∈is,i.May) (h6:n≤6) :
 Calls Tryz.prog 298 #[.slice (some ⟨g,0,none⟩) n c] w fun e w'=>∃ u bs,e = .returned (.tuple #[u,.int .i64 0])∧bs.length=7*n∧w'.ownsRow w.heap.size 5 1 u (7*n) (bys bs)∧Keep [] w w':=by
 have HL:=JC hl
 clear hl
 have h6I:((n:Nat):Int)≤6:=by omega
 obtain ⟨N,hN7⟩:∃ N,N=7*n:=⟨_,rfl⟩
 have hN:=ZAv N (by omega) w
 have hw7:IntKind.i64.wrap (7*(n:Nat):Int)=(N:Nat):=by rw [IntKind.wrap_i64];omega
 rw [← hN7]
 have HN:=JC hN7
 clear hN7
 go_enter Tryz.func298,Tryz.ntmps298
 go_wp2_with (refine hN.mono ?_;clear hN;rintro e w1 ⟨r,rv,rfl,hR,hK⟩)
 go_loopw [6,16] (fun _ i wr=>∃ k:Nat,k≤n∧i = .int .i64 k∧RowX wr w.heap.size r rv N (7*k)∧Keep [] w wr) (fun _ i _=>n-(intOf i).toNat)
 case atStart=>exact ⟨0,Nat.zero_le _,rfl,hR,hK⟩
 case round=>
  clear hR hK
  obtain ⟨k,hk,rfl,hR,hK⟩:=hrel
  by_cases hlt:k<n
  · have hkl:k<is.length:=by rw [JA HL];exact hlt
    have hltI:((k:Nat):Int)<(n:Nat):=by omega
    have hgl:g<wr.heap.size:=(VJ ZK (ha.keep hK) hkl (j:=0) (by omega)).1
    have c0:=(VJ ZK (ha.keep hK) hkl (j:=0) (by omega)).2
    have c1:=(VJ ZK (ha.keep hK) hkl (j:=1) (by omega)).2
    have c2:=(VJ ZK (ha.keep hK) hkl (j:=2) (by omega)).2
    have c3:=(VJ ZK (ha.keep hK) hkl (j:=3) (by omega)).2
    have hmi:=hm _ (List.getElem_mem hkl)
    have hT:=fun W=>Kd _ hmi W
    have hbd:=hmi.bounds
    generalize is[k]=it at *
    obtain ⟨ik,ib,ic,iv⟩:=it
    simp only [itc,List.getElem?_cons_zero,List.getElem?_cons_succ,Nat.add_zero] at c0 c1 c2 c3 hbd hT
    clear hmi
    obtain ⟨b1,b2,b3,b4⟩:=hbd
    have hBk:=Blk.new wr 329 #[.int .i64 ik,.int .i64 ib,.int .i64 ic,.int .i64 iv]
    go_wp2_with fail
    refine (hT _).mono ?_
    rintro e w2 ⟨rfl,hk2⟩
    clear hT
    have hB1:=hBk.keep0 hk2
    clear hBk
    obtain ⟨d0,d1,d2,d3⟩:=KO hB1
    have hlt2:=hB1.lt
    go_wp2_with fail
    have hR:=(hR.keep0 ((Keep.refl _ _).alloc (.cells #[.int .i64 ik,.int .i64 ib,.int .i64 ic,.int .i64 iv] 329))).keep0 hk2
    have hP:=Qr (k:=1) hR (by omega) [ik,ib,ic] (by simp;omega) (by simp) (by have:=JA HN;simp;omega) #[.int .i64 ik,.int .i64 ib,.int .i64 ic] rfl 3 rfl
    have hKa:=(hK.alloc (.cells #[.int .i64 ik,.int .i64 ib,.int .i64 ic,.int .i64 iv] 329)).trans0 hk2
    clear hK
    go_wp2_with (
     (refine hP.mono ?_)
     clear hP
     rintro e w3 ⟨rfl,hR3,hK3⟩
     have hB3:=hR.blk hK3 hB1 (by decide) (by decide)
     clear hk2 d0 d1 d2 d3 hlt2 hB1
     obtain ⟨d0,d1,d2,d3⟩:=KO hB3
     have hlt2:=hB3.lt)
    have hK3':=hKa.trans hK3 (fun x hx => .inr (hR.fresh x hx))
    have hP:=Qr (k:=4) hR3 (by omega) [iv] (by simp;omega) (by simp) (by have:=JA HN;simp;omega) #[.int .i64 iv] rfl 1 rfl
    go_wp2_with (
     (refine hP.mono ?_)
     clear hP
     rintro e w4 ⟨rfl,hR4,hK4⟩)
    go_roundw
    case rel=>exact ⟨k+1,by omega,by go_num,hR4,hK3'.trans hK4 (fun x hx => .inr (hR3.fresh x hx))⟩
    case measure=>simp [intOf];omega
  · obtain rfl:n=k:=by omega
    go_wp2_with (refine (Xm hR).mono ?_;rintro e w2 ⟨u,bs,rfl,hl2,hu,hk2⟩)
    go_ret2
    exact ⟨u,bs,rfl,hl2,YC hu hK.size,hK.trans0 hk2⟩
end
section
open Go.RowKit
theorem QAc (A:Option Addr) (c:Nat) (w:World):Calls Tryz.prog 330 #[.slice A 64 c] w fun e w'=>e = .returned (.bool false)∧w=w':=by
 go_enter Tryz.func330,Tryz.ntmps330
 go_wp2
 go_ret
 exact ⟨rfl,rfl⟩
theorem Kw (A:Option Addr) (n c:Nat) (ls:List (Value×List UInt8)) (w:World) (ha:Rws w A n ls) (h:∀ p∈ls,p.2.length=64) (hn:n≤1000000) :
 Calls Tryz.prog 344 #[.slice A n c,.func (.func 330) #[] #[]] w fun e w'=>e = .returned (.int .i64 (-1))∧Keep [] w w':=by
 have HL:=JC ha.len
 go_enter Tryz.func344,Tryz.ntmps344
 go_wp2_with fail
 go_loopw [5,8] (fun _ i wr=>∃ k:Nat,k≤n∧i = .int .i64 k∧Keep [] w wr) (fun _ i _=>n-(intOf i).toNat)
 case atStart=>exact ⟨0,Nat.zero_le _,rfl,Keep.refl _ _⟩
 case round=>
  obtain ⟨k,hk,rfl,hkr⟩:=hrel
  by_cases hlt:k<n
  · have hkl:k<ls.length:=by rw [JA HL];exact hlt
    have hltI:((k:Nat):Int)<(n:Nat):=by omega
    obtain ⟨b,o,rfl,hb,hc,hr⟩:=(ha.keep hkr).at_ hlt hkl
    have h64:=h _ (List.getElem_mem hkl)
    generalize ls[k]=p at *
    obtain ⟨pv,pb⟩:=p
    obtain ⟨PA,pn,pc,hpv,h1,h2,h3⟩:=hr
    simp only at hpv
    subst hpv
    have hpl:pb.length=pn:=by simpa using h3.1
    obtain rfl:64=pn:=by rw [← hpl];exact h64.symm
    clear hpl h64
    go_wp2_with (refine (QAc _ _ _).mono ?_;rintro e w' ⟨rfl,rfl⟩)
    go_roundw
    case rel=>exact ⟨k+1,by omega,by go_num,hkr⟩
    case measure=>simp [intOf];omega
  · obtain rfl:n=k:=by omega
    go_wp2
    go_ret
    exact ⟨rfl,hkr⟩
theorem Xr (A:Option Addr) (n c:Nat) (ls:List (Value×List UInt8)) (w:World) (ha:Rws w A n ls) (h:∀ p∈ls,p.2.length=64) (hn:n≤1000000) :
 Calls Tryz.prog 329 #[.slice A n c,.func (.func 330) #[] #[]] w fun e w'=>e = .returned (.bool false)∧Keep [] w w':=by
 have hT:=Kw A n c ls w ha h hn
 go_enter Tryz.func329,Tryz.ntmps329
 go_wp2_with (refine hT.mono ?_;clear hT;rintro e w' ⟨rfl,hk⟩)
 go_ret
 exact ⟨rfl,hk⟩
theorem YV (n lo hi:Int) (w:World) (h:lo≤n∧n≤hi):Calls Tryz.prog 328 #[.int .i64 n,.int .i64 lo,.int .i64 hi] w fun e w'=>e = .returned (.bool true)∧w=w':=by
 obtain ⟨h1,h2⟩:=h
 go_enter Tryz.func328,Tryz.ntmps328
 go_wp2
 go_ret
 exact ⟨rfl,rfl⟩
def JQ (is:List PItem):Nat:=(is.filter (·.loaded)).length
theorem Xc (is:List PItem) (i:PItem):JQ (is++[i])=JQ is+if i.loaded then 1 else 0:=by
 unfold JQ
 rw [List.filter_append,List.length_append]
 cases h:i.loaded <;> simp [h]
theorem XK (is:List PItem):JQ is≤is.length:=List.length_filter_le _ _
theorem ZI {w:World} {g:Nat} {t:TypeId} {x0 x1 x2 x3 x4:Value} (h:Blk w g t #[x0,x1,x2,x3,x4]) :
 w.cell? ⟨g,0,none⟩=some x0∧w.cell? ⟨g,1,none⟩=some x1∧w.cell? ⟨g,2,none⟩=some x2∧w.cell? ⟨g,3,none⟩=some x3∧w.cell? ⟨g,4,none⟩=some x4:=
 ⟨by simpa using h.cell 0,by simpa using h.cell 1,by simpa using h.cell 2,by simpa using h.cell 3,by simpa using h.cell 4⟩
theorem VAG (mount lsn prev:Nat) (h2:1≤mount∧mount≤2147483647) (h3:1≤lsn∧lsn≤2147483647) (h4:prev≤4294967295) (g n c:Nat) (is:List PItem) (A:Option Addr) (m bc:Nat) (ls:List (Value×List UInt8)) (w:World)
 (ha:Rd w (some ⟨g,0,none⟩) (n*4) (is.flatMap itc)) (hl:is.length=n) (hm:∀ i∈is,i.May) (h1:1≤n) (h6:n≤6) (hb:Rws w A m ls) (h64:∀ p∈ls,p.2.length=64) (hlo:m=JQ is) :
 Calls Tryz.prog 297 #[.agg #[.int .i64 mount,.int .i64 lsn,.int .i64 prev,.slice (some ⟨g,0,none⟩) n c,.slice A m bc]] w fun e w'=>e = .returned (.bool true)∧Keep [] w w':=by
 have hm6:m≤6:=by have:=XK is;omega
 have hT1:=fun W=>YV mount 1 2147483647 W ⟨by omega,by omega⟩
 have hT2:=fun W=>YV lsn 1 2147483647 W ⟨by omega,by omega⟩
 have hT3:=fun W=>YV prev 0 4294967295 W ⟨by omega,by omega⟩
 have hT4:=fun W=>YV n 1 6 W ⟨by omega,by omega⟩
 obtain ⟨sf,hsf⟩:∃ sf:Nat→Nat,∀ k,sf k=JQ (is.take k):=⟨_,fun _=>rfl⟩
 have hs0:sf 0=0:=by rw [hsf];simp [JQ]
 have hsn:sf n=m:=by rw [hsf,List.take_of_length_le (by omega),hlo]
 have hss:∀ k (hk:k<is.length),sf (k+1)=sf k+if is[k].loaded then 1 else 0:=fun k hk=>by rw [hsf,hsf,List.take_succ_eq_append_getElem hk,Xc]
 have hsle:∀ k,k≤n→sf k≤6:=fun k hk=>by rw [hsf];have:=XK (is.take k);rw [List.length_take] at this;omega
 have HSS:=JC hss
 have HSN:=JC hsn
 have HL:=JC hl
 clear hss hsn hsf hlo hl
 have hBk:=Blk.new w 339 #[.int .i64 mount,.int .i64 lsn,.int .i64 prev,.slice (some ⟨g,0,none⟩) n c,.slice A m bc]
 go_enter Tryz.func297,Tryz.ntmps297
 go_wp2_with (first | (refine (hT1 _).mono ?_;clear hT1;rintro e w' ⟨rfl,rfl⟩) | (refine (hT2 _).mono ?_;clear hT2;rintro e w' ⟨rfl,rfl⟩) | (refine (hT3 _).mono ?_;clear hT3;rintro e w' ⟨rfl,rfl⟩) | (refine (hT4 _).mono ?_;clear hT4;rintro e w' ⟨rfl,rfl⟩))
 obtain ⟨w1,hw1⟩:∃ w1,w1=w.alloc (.cells #[.int .i64 mount,.int .i64 lsn,.int .i64 prev,.slice (some ⟨g,0,none⟩) n c,.slice A m bc] 339):=⟨_,rfl⟩
 have hk1:Keep [] w w1:=by rw [hw1];exact (Keep.refl _ _).alloc _
 rw [← hw1] at hBk ⊢
 clear hw1
 go_loopw [3,5,32] (fun z _ i wr=>∃ k:Nat,k≤n∧i = .int .i64 k∧z = .int .i64 (sf k:Nat)∧Keep [] w wr∧Blk wr w.heap.size 339 #[.int .i64 mount,.int .i64 lsn,.int .i64 prev,.slice (some ⟨g,0,none⟩) n c,.slice A m bc]) (fun _ _ i _=>n-(intOf i).toNat)
 case atStart=>exact ⟨0,Nat.zero_le _,rfl,by rw [hs0];rfl,hk1,hBk⟩
 case round=>
  clear hk1 hBk hs0
  obtain ⟨k,hk,rfl,rfl,hK,hBk⟩:=hrel
  by_cases hlt:k<n
  · have hkl:k<is.length:=by rw [JA HL];exact hlt
    have hltI:((k:Nat):Int)<(n:Nat):=by omega
    have hgl:g<wr.heap.size:=(VJ ZK (ha.keep hK) hkl (j:=0) (by omega)).1
    have c0:=(VJ ZK (ha.keep hK) hkl (j:=0) (by omega)).2
    have c1:=(VJ ZK (ha.keep hK) hkl (j:=1) (by omega)).2
    have c2:=(VJ ZK (ha.keep hK) hkl (j:=2) (by omega)).2
    have c3:=(VJ ZK (ha.keep hK) hkl (j:=3) (by omega)).2
    have hmi:=hm _ (List.getElem_mem hkl)
    have hT:=fun W=>Kd _ hmi W
    have hTl:=fun W=>Ym _ hmi W
    have HS:=JC (JA HSS k hkl)
    have hq6:=hsle k hk
    clear hsle
    generalize is[k]=it at *
    generalize hq2:sf (k+1)=q2 at *
    generalize hq:sf k=q at *
    obtain ⟨ik,ib,ic,iv⟩:=it
    generalize hlb:PItem.loaded ⟨ik,ib,ic,iv⟩=lb at *
    simp only [itc,List.getElem?_cons_zero,List.getElem?_cons_succ,Nat.add_zero] at c0 c1 c2 c3 hT hTl
    clear hmi hlb hq
    have hBi:=Blk.new wr 329 #[.int .i64 ik,.int .i64 ib,.int .i64 ic,.int .i64 iv]
    cases lb
    all_goals
     go_wp2_with (
      (refine (hT _).mono ?_)
      rintro e w2 ⟨rfl,hk2⟩
      clear hT
      have hB1:=hBi.keep0 hk2
      clear hBi
      obtain ⟨d0,d1,d2,d3⟩:=KO hB1
      have hlt2:=hB1.lt)
     go_wp2_with (
      (refine (hTl _).mono ?_)
      rintro e w3 ⟨rfl,hk3⟩
      clear hTl)
     have hK3:Keep [] wr w3:=(((Keep.refl _ _).alloc _).trans0 hk2).trans0 hk3
     go_roundw
     case rel=>exact ⟨k+1,by omega,by go_num,by rw [hq2,JA HS];simp,hK.trans0 hK3,hBk.keep0 hK3⟩
     case measure=>simp [intOf];omega
  · obtain rfl:n=k:=by omega
    rw [JA HSN]
    clear hsle
    have hTc:=fun (W:World) (hk:Keep [] wr W)=>Xr A m bc ls W (hb.keep (hK.trans0 hk)) h64 (by omega)
    obtain ⟨c0,c1,c2,c3,c4⟩:=ZI hBk
    go_wp2_with (refine (hTc _ ?_).mono ?_;rotate_left;rintro e w' ⟨rfl,hk2⟩;rotate_right;exact Keep.refl _ _)
    go_ret
    exact ⟨rfl,hK.trans0 hk2⟩
end
section
open Go.RowKit
structure POp where
 k:Int
 b:Int
 c:Int
 e:Int
 d:List UInt8
def opc (p:Value×POp):List Value:=[.int .i64 p.2.k,.int .i64 p.2.b,.int .i64 p.2.c,.int .i64 p.2.e,p.1]
@[simp] theorem length_opc (p:Value×POp):(opc p).length=5:=rfl
theorem Jt (os:List (Value×POp)) (k:Nat):(os.flatMap opc).drop (k*5)=(os.drop k).flatMap opc:=by
 induction k generalizing os with
 | zero=>simp
 | succ k ih=>
   cases os with
   | nil=>simp
   | cons p os=>rw [List.flatMap_cons,List.drop_succ_cons,← ih,Nat.succ_mul,List.drop_append,List.drop_of_length_le (by simp)];simp
theorem XAe (os:List (Value×POp)) (i j:Nat) (hi:i<os.length) (hj:j<5):(os.flatMap opc)[i*5+j]? = (opc os[i])[j]? := by
 have h1:=Jt os i
 have h2:((os.flatMap opc).drop (i*5))[j]? = (os.flatMap opc)[i*5+j]? := List.getElem?_drop
 rw [← h2,h1,List.drop_eq_getElem_cons hi,List.flatMap_cons,List.getElem?_append_left (by simpa using hj)]
theorem Yg (p:Value×POp) (h:p.1.oneCell'=true):∀ u∈opc p,u.oneCell'=true:=by
 intro u hu
 simp only [opc,List.mem_cons,List.not_mem_nil,or_false] at hu
 rcases hu with rfl | rfl | rfl | rfl | rfl <;> first | rfl | exact h
theorem YAc (os:List (Value×POp)) (h:∀ p∈os,p.1.oneCell'=true):∀ u∈os.flatMap opc,u.oneCell'=true:=by
 intro u hu
 obtain ⟨p,hp,hu⟩:=List.mem_flatMap.1 hu
 exact Yg p (h p hp) u hu
theorem elemOps:ElemN Tryz.prog 38 46 (.agg #[.int .i64 0,.int .i64 0,.int .i64 0,.int .i64 0,.slice none 0 0]) 5 56:=ElemN.of Tryz.underlying38 (by kernel_rfl) rfl (by omega)
def OpsRd (w:World) (A:Option Addr) (n:Nat) (os:List (Value×POp)):Prop:=Rd w A (n*5) (os.flatMap opc)∧os.length=n
theorem OpsRd.at_ {w:World} {A:Option Addr} {n:Nat} {os:List (Value×POp)} (h:OpsRd w A n os) {i:Nat} (hi:i<n) (hl:i<os.length) :
 ∃ b o,A=some ⟨b,o,none⟩∧b<w.heap.size∧w.cell? ⟨b,o+i*5,none⟩=some (.int .i64 os[i].2.k)∧w.cell? ⟨b,o+i*5+1,none⟩=some (.int .i64 os[i].2.b)∧w.cell? ⟨b,o+i*5+2,none⟩=some (.int .i64 os[i].2.c) ∧
   w.cell? ⟨b,o+i*5+3,none⟩=some (.int .i64 os[i].2.e)∧w.cell? ⟨b,o+i*5+4,none⟩=some os[i].1:=by
 obtain ⟨b,o,rfl,hb,hc⟩:=h.1.2 (by omega)
 have hg:=fun j hj=>XAe os i j hl hj
 refine ⟨b,o,rfl,hb,?_,?_,?_,?_,?_⟩
 · have:=hc (i*5+0) _ ((hg 0 (by omega)).trans rfl);simpa [Nat.add_assoc] using this
 · have:=hc (i*5+1) _ ((hg 1 (by omega)).trans rfl);simpa [Nat.add_assoc] using this
 · have:=hc (i*5+2) _ ((hg 2 (by omega)).trans rfl);simpa [Nat.add_assoc] using this
 · have:=hc (i*5+3) _ ((hg 3 (by omega)).trans rfl);simpa [Nat.add_assoc] using this
 · have:=hc (i*5+4) _ ((hg 4 (by omega)).trans rfl);simpa [Nat.add_assoc] using this
theorem OpsRd.keepIf {w w':World} {A:Option Addr} {n:Nat} {os:List (Value×POp)} {l:List Nat} (h:OpsRd w A n os) (hk:Keep l w w') (hg:∀ a,A=some a→a.block∉l):OpsRd w' A n os:=⟨h.1.keepIf hk hg,h.2⟩
theorem OpsRd.keep {w w':World} {A:Option Addr} {n:Nat} {os:List (Value×POp)} (h:OpsRd w A n os) (hk:Keep [] w w'):OpsRd w' A n os:=⟨h.1.keep hk,h.2⟩
theorem OpsRd.of_own {w:World} {A:Option Addr} {n c base:Nat} {os:List (Value×POp)} (h:w.ownsRow base 46 5 (.slice A n c) n (os.flatMap opc)) (hl:os.length=n):OpsRd w A n os:=⟨Rd.of_ownN h,hl⟩
theorem Kc (A:Option Addr) (n c:Nat) (os:List (Value×POp)) (w:World) (ha:OpsRd w A n os) (h1:∀ p∈os,p.1.oneCell'=true) (hn:n≤1000000) :
 Calls Tryz.prog 147 #[.slice A n c] w fun e w'=>∃ v,e = .returned v∧w'.ownsRow w.heap.size 46 5 v n (os.flatMap opc)∧Keep [] w w':=by
 have heq:=fun (W:World)=>Lib.run_eql_slice_nil (P:=Tryz.prog) W 38 46 A n c 0 0 Tryz.underlying38
 rcases A with _ | ad
 · obtain rfl:n=0:=by
    rcases Nat.eq_zero_or_pos n with e | e
    · exact e
    · obtain ⟨b,o,h,_⟩:=ha.1.2 (by omega)
      cases h
   obtain rfl:os=[]:=List.eq_nil_of_length_eq_zero ha.2
   go_enter Tryz.func147,Tryz.ntmps147
   go_wp2
   go_ret
   exact ⟨_,rfl,World.ownsRow_nil _ _ _ _,Keep.refl _ _⟩
 · have hr:=ha.1.keep ((Keep.refl _ w).alloc (.cells #[] 46))
   have ho:(w.alloc (.cells #[] 46)).ownsRow w.heap.size 46 5 (.slice (some ⟨w.heap.size,0,none⟩) 0 0) 0 []:=World.ownsRow_made _ _ _ (Nat.le_refl _) (by simp [maxLen]) rfl
   go_enter Tryz.func147,Tryz.ntmps147
   go_wp2_with (at_builtin;refine elemOps.wp_app rfl _ _ rfl w.heap.size _ 0 [] rfl ho ad n c (os.flatMap opc) rfl hr (YAc os h1) (by omega) (by omega) (by simp) ?_)
   intro v' w' hown hk _ _
   go_wp2
   go_ret
   exact ⟨_,rfl,by simpa using hown,((Keep.refl _ w).alloc _).trans hk (by simp [Value.ownBlock])⟩
end
section
open Go.RowKit
structure PSlot where
 v:Value
 o:POp
 is:Bool
def POp.zero:POp:=⟨0,0,0,0,[]⟩
def PSlot.none_:PSlot:=⟨.slice none 0 0,POp.zero,false⟩
def slc (q:PSlot):List Value:=[.int .i64 q.o.k,.int .i64 q.o.b,.int .i64 q.o.c,.int .i64 q.o.e,q.v,.bool q.is]
theorem XG (q:PSlot):(slc q).length=6:=rfl
structure WinIs (w:World) (base x:Nat) (L:Value) (F:List Nat) (next:Nat) (sl:List PSlot):Prop where
 blk:Blk w x 191 #[L,.int .i64 next]
 row:w.ownsRow base 195 6 L sl.length (sl.flatMap slc)
 dat:∀ q∈sl,w.ownsRow base 5 1 q.v q.o.d.length (bys q.o.d)
 foot:F=x :: (L.ownBlock.toList++sl.flatMap (fun q=>q.v.ownBlock.toList))
 base:base≤x
 pos:1≤sl.length
 few:sl.length≤16
 zero:∀ q∈sl,q.is=false→q=PSlot.none_
 nb:1≤next∧next≤2000000000
def WinAt (w:World) (base x:Nat) (F:List Nat) (next:Nat) (sl:List PSlot):Prop:=∃ L,WinIs w base x L F next sl
namespace WinIs
variable {w w':World} {base x:Nat} {L:Value} {F l:List Nat} {next:Nat} {sl:List PSlot}
theorem mem (h:WinIs w base x L F next sl) {y:Nat} (hy:y∈F):y=x∨y∈L.ownBlock.toList∨∃ q∈sl,y∈q.v.ownBlock.toList:=by
 rw [h.foot] at hy
 simpa only [List.mem_cons,List.mem_append,List.mem_flatMap] using hy
theorem inX (h:WinIs w base x L F next sl):x∈F:=by rw [h.foot];simp
theorem inL (h:WinIs w base x L F next sl):∀ y∈L.ownBlock.toList,y∈F:=fun y hy=>by rw [h.foot];exact List.mem_cons_of_mem _ (List.mem_append_left _ hy)
theorem inQ (h:WinIs w base x L F next sl) {q:PSlot} (hq:q∈sl):∀ y∈q.v.ownBlock.toList,y∈F:=fun y hy=>by
 rw [h.foot];exact List.mem_cons_of_mem _ (List.mem_append_right _ (List.mem_flatMap.2 ⟨q,hq,hy⟩))
theorem keep (h:WinIs w base x L F next sl) (hk:Keep l w w') (ha:Apart F l):WinIs w' base x L F next sl:=
 ⟨h.blk.keep hk (ha _ h.inX),QB h.row hk fun y hy=>ha _ (h.inL y (by simpa using hy)),fun q hq=>QB (h.dat q hq) hk fun y hy=>ha _ (h.inQ hq y (by simpa using hy)),h.foot,h.base,h.pos,h.few,h.zero,h.nb⟩
theorem keep0 (h:WinIs w base x L F next sl) (hk:Keep [] w w'):WinIs w' base x L F next sl:=h.keep hk Apart.nil_right
theorem lt (h:WinIs w base x L F next sl):∀ y∈F,y<w.heap.size:=by
 intro y hy
 rcases h.mem hy with rfl | hy | ⟨q,hq,hy⟩
 · exact h.blk.lt
 · exact (own_mem h.row hy).2
 · exact (own_mem (h.dat q hq) hy).2
theorem ge (h:WinIs w base x L F next sl):∀ y∈F,base≤y:=by
 intro y hy
 rcases h.mem hy with rfl | hy | ⟨q,hq,hy⟩
 · exact h.base
 · exact (own_mem h.row hy).1
 · exact (own_mem (h.dat q hq) hy).1
theorem xL (h:WinIs w base x L F next sl):x∉L.ownBlock.toList:=fun hm=>own_blk_ne h.row h.blk (by decide) (by simpa using hm)
theorem xQ (h:WinIs w base x L F next sl) {q:PSlot} (hq:q∈sl):x∉q.v.ownBlock.toList:=fun hm=>own_blk_ne (h.dat q hq) h.blk (by decide) (by simpa using hm)
theorem form (h:WinIs w base x L F next sl):∃ g c,L = .slice (some ⟨g,0,none⟩) sl.length c∧sl.length≤c:=by
 obtain ⟨g,c,e,hc,_⟩:=ZE h.row (by have:=h.pos;omega)
 exact ⟨g,c,e,hc⟩
theorem cells (h:WinIs w base x L F next sl):w.cell? ⟨x,0,none⟩=some L∧w.cell? ⟨x,1,none⟩=some (.int .i64 next):=⟨by simpa using h.blk.cell 0,by simpa using h.blk.cell 1⟩
end WinIs
namespace WinAt
variable {w w':World} {base x:Nat} {F l:List Nat} {next:Nat} {sl:List PSlot}
theorem keep (h:WinAt w base x F next sl) (hk:Keep l w w') (ha:Apart F l):WinAt w' base x F next sl:=by obtain ⟨L,h⟩:=h;exact ⟨L,h.keep hk ha⟩
theorem keep0 (h:WinAt w base x F next sl) (hk:Keep [] w w'):WinAt w' base x F next sl:=h.keep hk Apart.nil_right
theorem lt (h:WinAt w base x F next sl):∀ y∈F,y<w.heap.size:=by obtain ⟨L,h⟩:=h;exact h.lt
theorem ge (h:WinAt w base x F next sl):∀ y∈F,base≤y:=by obtain ⟨L,h⟩:=h;exact h.ge
end WinAt
end
section
open Go.RowKit
structure Src (w0 w:World) (s:Nat) (view size epoch seq acked done:Nat) (L:Value) (os:List (Value×POp)):Prop where
 blk:Blk w s 149 #[.int .i64 view,.int .i64 size,.int .i64 epoch,.int .i64 seq,.int .i64 acked,.int .i64 done,L]
 row:w.ownsRow w0.heap.size 46 5 L os.length (os.flatMap opc)
 data:∀ p∈os,w.ownsRow w0.heap.size 5 1 p.1 p.2.d.length (bys p.2.d)
 small:∀ p∈os,p.2.d.length≤64
 new:w0.heap.size≤s
 keep:Keep [] w0 w
 len:done+os.length=seq
 few:seq≤1000000
namespace Src
variable {w0 w w':World} {s view size epoch seq acked done:Nat} {L:Value} {os:List (Value×POp)}
theorem lt (h:Src w0 w s view size epoch seq acked done L os):s<w.heap.size:=h.blk.lt
theorem keep0 (h:Src w0 w s view size epoch seq acked done L os) (hk:Keep [] w w'):Src w0 w' s view size epoch seq acked done L os:=
 ⟨h.blk.keep0 hk,XB h.row hk,fun p hp=>XB (h.data p hp) hk,h.small,h.new,h.keep.trans0 hk,h.len,h.few⟩
theorem keepL (h:Src w0 w s view size epoch seq acked done L os) {l:List Nat} (hk:Keep l w w') (hl:∀ x∈l,w0.heap.size≤x) (h1:s∉l) (h2:∀ g∈L.ownBlock.toList,g∉l) (h3:∀ p∈os,∀ g∈p.1.ownBlock.toList,g∉l):Src w0 w' s view size epoch seq acked done L os:=
 ⟨h.blk.keep hk h1,QB h.row hk (fun g hg=>h2 g (by simpa using hg)),fun p hp=>QB (h.data p hp) hk (fun g hg=>h3 p hp g (by simpa using hg)),h.small,h.new,h.keep.trans hk (fun x hx => .inr (hl x hx)),h.len,h.few⟩
theorem not_mem (h:Src w0 w s view size epoch seq acked done L os):s∉L.ownBlock.toList:=fun hm=>own_blk_ne h.row h.blk (by decide) (by simpa using hm)
theorem data_s (h:Src w0 w s view size epoch seq acked done L os) {p:Value×POp} (hp:p∈os):s∉p.1.ownBlock.toList:=fun hm=>own_blk_ne (h.data p hp) h.blk (by decide) (by simpa using hm)
theorem data_L (h:Src w0 w s view size epoch seq acked done L os) {p:Value×POp} (hp:p∈os) {g:Nat} (hg:g∈p.1.ownBlock.toList):g∉L.ownBlock.toList:=fun hm=>own_ne (h.data p hp) h.row (by decide) (by simpa using hg) (by simpa using hm)
theorem one (h:Src w0 w s view size epoch seq acked done L os):∀ p∈os,p.1.oneCell'=true:=fun p hp=>KAQ (h.data p hp)
theorem fresh (h:Src w0 w s view size epoch seq acked done L os):∀ x∈s :: L.ownBlock.toList,w0.heap.size≤x:=fun x hx=>by
 rcases List.mem_cons.1 hx with rfl | hx
 · exact h.new
 · exact (own_mem h.row hx).1
theorem rd (h:Src w0 w s view size epoch seq acked done L os) {A:Option Addr} {n c:Nat} (hL:L = .slice A n c):OpsRd w A n os:=by
 have h1:=h.row
 subst hL
 have hl:os.length=n:=by
  rcases h1.2 with ⟨he,h0⟩ | ⟨g,cap,cur,he,_⟩
  · injection he with _ e _;omega
  · injection he with _ e _;exact e.symm
 rw [hl] at h1
 exact OpsRd.of_own h1 hl
end Src
theorem VC {w:World} {g:Nat} {x0 x1 x2 x3 x4 x5 x6:Value} (h:Blk w g 149 #[x0,x1,x2,x3,x4,x5,x6]) :
 w.cell? ⟨g,0,none⟩=some x0∧w.cell? ⟨g,1,none⟩=some x1∧w.cell? ⟨g,2,none⟩=some x2∧w.cell? ⟨g,3,none⟩=some x3∧w.cell? ⟨g,4,none⟩=some x4∧w.cell? ⟨g,5,none⟩=some x5∧w.cell? ⟨g,6,none⟩=some x6:=
 ⟨by simpa using h.cell 0,by simpa using h.cell 1,by simpa using h.cell 2,by simpa using h.cell 3,by simpa using h.cell 4,by simpa using h.cell 5,by simpa using h.cell 6⟩
theorem ZAA (v n:Nat) (hv:1≤v∧v≤2147483647) (hn:1≤n∧n≤16) (w:World) :
 Calls Tryz.prog 33 #[.int .i64 (v:Nat),.int .i64 (n:Nat)] w fun e w'=>∃ s,e = .returned (.pointer (some ⟨s,0,none⟩))∧Src w w' s v n 0 0 0 0 (.slice none 0 0) []:=by
 obtain ⟨h1,h2⟩:=hv
 obtain ⟨h3,h4⟩:=hn
 go_enter Tryz.func33,Tryz.ntmps33
 go_wp2
 go_ret
 exact ⟨_,rfl,Blk.new _ _ _,World.ownsRow_nil _ _ _ _,by simp,by simp,Nat.le_refl _,(Keep.refl _ _).alloc _,rfl,by omega⟩
theorem Vz (v n:Nat) (h:v=0∨(1≤v∧v≤2147483647)∧(n=0∨16<n)) (w:World) :
 Calls Tryz.prog 33 #[.int .i64 (v:Nat),.int .i64 (n:Nat)] w fun e w'=>e = .returned (.pointer none)∧w=w':=by
 rcases h with rfl | ⟨⟨h1,h2⟩,rfl | h3⟩
 all_goals
  go_enter Tryz.func33,Tryz.ntmps33
  go_wp2
  go_ret
  exact ⟨rfl,rfl⟩
section
variable (w0 w:World) (s view size epoch seq acked done:Nat) (L:Value) (os:List (Value×POp))
theorem YAB (h:Src w0 w s view size epoch seq acked done L os):Calls Tryz.prog 39 #[.pointer (some ⟨s,0,none⟩)] w fun e w'=>e = .returned (.int .i64 (epoch:Nat))∧w=w':=by
 obtain ⟨c0,c1,c2,c3,c4,c5,c6⟩:=VC h.blk
 go_enter Tryz.func39,Tryz.ntmps39
 go_wp2
 go_ret
 exact ⟨rfl,rfl⟩
theorem XAA (h:Src w0 w s view size epoch seq acked done L os):Calls Tryz.prog 37 #[.pointer (some ⟨s,0,none⟩)] w fun e w'=>e = .returned (.int .i64 (acked:Nat))∧w=w':=by
 obtain ⟨c0,c1,c2,c3,c4,c5,c6⟩:=VC h.blk
 go_enter Tryz.func37,Tryz.ntmps37
 go_wp2
 go_ret
 exact ⟨rfl,rfl⟩
theorem XAR (h:Src w0 w s view size epoch seq acked done L os):Calls Tryz.prog 38 #[.pointer (some ⟨s,0,none⟩)] w fun e w'=>e = .returned (.int .i64 (done:Nat))∧w=w':=by
 obtain ⟨c0,c1,c2,c3,c4,c5,c6⟩:=VC h.blk
 go_enter Tryz.func38,Tryz.ntmps38
 go_wp2
 go_ret
 exact ⟨rfl,rfl⟩
end
end
end Go.Proofs.YtmoagodllhdemaaGreat
