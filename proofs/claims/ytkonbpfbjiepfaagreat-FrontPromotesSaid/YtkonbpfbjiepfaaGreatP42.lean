/- Lemmas of the proof, with their conditions. -/
import Derived.Test.YtkonbpfbjiepfaaGreatP41
namespace Go.Proofs.YtkonbpfbjiepfaaGreat
set_option linter.unusedSimpArgs false
set_option linter.unusedVariables false
set_option maxHeartbeats 8000000
set_option maxRecDepth 40000
section
open Go.RowKit Go.Shelf
attribute [local go_sem] Oper.semAt_some
structure KLen (w:World) (pre:List WRnd) (W:World):Prop where
 cnt:Boxed W w.heap.size 3 (.int .i64 (pre.length:Nat))
 keep:Keep [] w W
theorem KLen.kept {w A B:World} {pre:List WRnd} (h:KLen w pre A) (hk:Keep [] A B):KLen w pre B:=⟨JA h.cnt hk (by simp),h.keep.trans0 hk⟩
theorem KLen.turned {w W:World} {k:Nat} {pre:List WRnd} {o o':Obj} (h:KLen w pre W) (hl:w.heap.size≤k) (hg:W.heap[k]? = some o) (ho:o.isCells=false):KLen w pre (W.putObj k o'):=
 ⟨JC o' h.cnt hg ho,h.keep.putObj hl o'⟩
theorem ZAW (m:Nat):(madeCells #[.int .i64 0,.int .i64 0,.int .i64 0,.int .i64 0,.slice none 0 0,.bool false] (m*6)).toList=(JD m).flatMap slc:=by
 apply List.ext_getElem?;intro j
 by_cases hj:j<m*6
 · have h1:(JD m)[j / 6]'(by simp[JD];omega)=PSlot.none_:=by simp[JD]
   have h2:=VK YF (JD m) (j / 6) (j % 6) (by simp[JD];omega) (by omega);rw[show j / 6*6+j % 6=j by omega,h1] at h2;rw[h2];have:j % 6=0∨j % 6=1∨j % 6=2∨j % 6=3∨j % 6=4∨j % 6=5:=by omega
   rw[Array.getElem?_toList,madeCells,Array.getElem?_map,Array.getElem?_range,if_pos hj];simp only[Option.map_some,List.size_toArray,List.length_cons,List.length_nil];rcases this with h | h | h | h | h | h <;> (rw[show j % (0+1+1+1+1+1+1)=j % 6 from rfl,h];rfl)
 · rw[List.getElem?_eq_none (by rw[Array.length_toList,size_madeCells];omega),List.getElem?_eq_none (by rw[KQ YF];simp[JD];omega)]
theorem ZAh (m next:Nat) (h1:1≤m) (h2:m≤16) (h3:1≤next∧next≤1000000000) (w:World) :
 Calls Tryz.prog 223 #[.int .i64 (m:Nat),.int .i64 (next:Nat)] w fun e w'=>∃ x,e=.returned (.pointer (some ⟨x,0,none⟩))∧∃ F,WinAt w' w.heap.size x F next (JD m)∧Keep [] w w':=by
 have i1:¬ ((m:Nat):Int)<1:=by omega
 have i2:¬ (16:Int)<((m:Nat):Int):=by omega
 have i3:¬ ((next:Nat):Int)<1:=by omega
 have i4:¬ (2147483647:Int)<((next:Nat):Int):=by omega
 go_enter Tryz.func223,Tryz.ntmps223
 go_wp2_with (at_make;refine elemSlot.wp_make rfl _ _ rfl .i64 .i64 m rfl rfl (by omega) (by omega) ?_;intro w1 g1 hg1 hs1 hb1 hk1;obtain rfl:g1=w.heap.size:=hg1;clear hs1)
 go_ret
 have hb2:w1.ownsRow w.heap.size 326 6 (.slice (some ⟨w.heap.size,0,none⟩) m m) m ((JD m).flatMap slc):=
  ⟨by rw[KQ YF];simp[JD],.inr ⟨w.heap.size,m,_,rfl,Nat.le_refl _,hb1,Nat.le_refl _,by simp[maxLen];omega,by rw[size_madeCells],by rw[← ZAW];exact List.take_of_length_le (by rw[Array.length_toList,size_madeCells];exact Nat.le_refl _)⟩⟩
 refine⟨_,rfl,⟨_,_,Blk.new _ _ _,by have:=XD hb2 (.cells #[.slice (some ⟨w.heap.size,0,none⟩) m m,.int .i64 (next:Nat)] 324);simpa [JD] using this,fun q hq=>?_,rfl,hk1.size,by simpa [JD] using h1,by simpa [JD] using h2,fun q hq _=>?_,by omega⟩,hk1.alloc _⟩
 · rw[List.eq_of_mem_replicate hq];exact PSlot.none_dat _ _
 · exact List.eq_of_mem_replicate hq
end
section
open Go.RowKit Go.Shelf
structure ReplicaIs (w:World) (base r s d x:Nat) (Fs Fx:List Nat) (B:Nat) (R:RS):Prop where
 blk:Blk w r 224 #[.pointer (some ⟨s,0,none⟩),.pointer (some ⟨x,0,none⟩)]
 st:StoreAt w base s d Fs B R.S
 win:WinAt w base x Fx R.next R.sl
 ap:Apart Fs Fx
 rs:r∉Fs
 rx:r∉Fx
 rb:base≤r
 mode:R.S.st.mode=1
 view:1≤R.S.st.view∧R.S.st.view≤2147483647
def JO (r:Nat) (Fs Fx:List Nat):List Nat:=r :: (Fs++Fx)
namespace ReplicaIs
variable {w w':World} {base r s d x:Nat} {Fs Fx l:List Nat} {B:Nat} {R:RS}
theorem keep (h:ReplicaIs w base r s d x Fs Fx B R) (hk:Keep l w w') (ha:Apart (JO r Fs Fx) l):ReplicaIs w' base r s d x Fs Fx B R:=
 ⟨h.blk.keep hk (ha r (by simp[JO])),h.st.keep hk (fun y hy=>ha y (by simp[JO,hy])),h.win.keep hk (fun y hy=>ha y (by simp[JO,hy])),h.ap,h.rs,h.rx,h.rb,h.mode,h.view⟩
theorem keep0 (h:ReplicaIs w base r s d x Fs Fx B R) (hk:Keep [] w w'):ReplicaIs w' base r s d x Fs Fx B R:=h.keep hk Apart.nil_right
theorem lt (h:ReplicaIs w base r s d x Fs Fx B R):∀ y∈JO r Fs Fx,y<w.heap.size:=fun y hy=>by
 simp only[JO,List.mem_cons,List.mem_append] at hy;rcases hy with rfl | hy | hy
 · exact h.blk.lt
 · exact h.st.lt y hy
 · exact h.win.lt y hy
theorem ge (h:ReplicaIs w base r s d x Fs Fx B R):∀ y∈JO r Fs Fx,base≤y:=fun y hy=>by
 simp only[JO,List.mem_cons,List.mem_append] at hy;rcases hy with rfl | hy | hy
 · exact h.rb
 · exact h.st.ge y hy
 · exact h.win.ge y hy
theorem cells (h:ReplicaIs w base r s d x Fs Fx B R):w.cell? ⟨r,0,none⟩=some (.pointer (some ⟨s,0,none⟩))∧w.cell? ⟨r,1,none⟩=some (.pointer (some ⟨x,0,none⟩)):=⟨by simpa using h.blk.cell 0,by simpa using h.blk.cell 1⟩
theorem setSt (h:ReplicaIs w base r s d x Fs Fx B R) {Fs':List Nat} {S':PS} (hs:StoreAt w' base s d Fs' B S') (hk:Keep Fs w w') (hg:Grow w Fs Fs') (hm:S'.st.mode=1) (hv:S'.st.view=R.S.st.view):ReplicaIs w' base r s d x Fs' Fx B ⟨S',R.next,R.sl⟩:=
 ⟨h.blk.keep hk h.rs,hs,h.win.keep hk h.ap.symm,h.ap.grow hg h.win.lt,fun hr=>(hg r hr).elim h.rs (by have:=h.blk.lt;omega),h.rx,h.rb,hm,hv ▸ h.view⟩
theorem setWin (h:ReplicaIs w base r s d x Fs Fx B R) {Fx':List Nat} {n:Nat} {sl:List PSlot} (hx:WinAt w' base x Fx' n sl) (hk:Keep Fx w w') (hg:∀ y∈Fx',y∈Fx∨(y∉Fs∧y≠r)):ReplicaIs w' base r s d x Fs Fx' B ⟨R.S,n,sl⟩:=
 ⟨h.blk.keep hk h.rx,h.st.keep hk h.ap,hx,fun y hy hm=>(hg y hm).elim (h.ap y hy) (fun h'=>h'.1 hy),h.rs,fun hr=>(hg r hr).elim h.rx (fun h'=>h'.2 rfl),h.rb,h.mode,h.view⟩
end ReplicaIs
theorem JI (w:World) (base s d:Nat) (F:List Nat) (B:Nat) (S:PS) (h:StoreAt w base s d F B S):Calls Tryz.prog 85 #[.pointer (some ⟨s,0,none⟩)] w fun e w'=>e=.returned (.agg #[.int .i64 S.st.mode,.int .i64 S.st.view,.int .i64 S.st.epoch,.int .i64 S.st.seq,.int .i64 S.st.done,.int .i64 S.st.mount,.int .i64 S.st.gen,.int .i64 (YD S.us:Nat),.int .i64 (QAa S:Nat),.int .i64 (QJ S.I.ol:Nat)])∧Keep [] w w':=by
 obtain⟨g,t,p,m,Fd,Ft,Fw,Fm,L0,L1,h,rfl⟩:=h;exact ZAV w base s d g t p m Fd Ft Fw Fm L0 L1 B S h
section
variable (w:World) (base r s d x:Nat) (Fs Fx:List Nat) (B:Nat) (R:RS) (h:ReplicaIs w base r s d x Fs Fx B R)
include h
theorem Zj (hs:R.S.st.seq≤2147483647) (he:R.S.st.epoch≤2147483647) (hd:R.S.st.done≤R.S.st.seq) :
 Calls Tryz.prog 147 #[.pointer (some ⟨r,0,none⟩)] w fun e w'=>∃ u,e=.returned (.tuple #[u,.int .i64 0])∧w'.ownsRow w.heap.size 5 1 u 25 (bys (KF 8 R.S.st.view R.S.st.seq 0 0 R.S.st.epoch R.S.st.done []))∧Keep [] w w':=by
 have hS:=JI w base s d Fs B R.S h.st;have hE:=fun W=>Vy 8 R.S.st.view R.S.st.seq 0 0 R.S.st.epoch R.S.st.done none 0 0 [] W (Rd.nil _ _) ⟨by have:=h.view;omega,.inr (.inr (.inr (.inl ⟨rfl,by omega,rfl,rfl,by omega,by omega,rfl⟩)))⟩;obtain⟨c0,c1⟩:=h.cells;unfold frv at hE;generalize R.S.st=st at *;obtain⟨mode,view,epoch,seq,done,mount,gen⟩:=st;simp only at hS hE hs he hd ⊢
 go_enter Tryz.func147,Tryz.ntmps147
 go_wp2_with (first
  | (go_at_call 85;refine hS.mono ?_;clear hS;rintro e w1 ⟨rfl,hk1⟩)
  | (go_at_call 228;refine(hE _).mono ?_;clear hE;rintro e w2 ⟨u,rfl,hu,hk2⟩))
 go_ret2;exact⟨u,rfl,ZC hu (by have:=hk1.size;simp;omega),(hk1.alloc _).trans0 hk2⟩
theorem readyR_ok:Calls Tryz.prog 141 #[.pointer (some ⟨r,0,none⟩)] w fun e w'=>e=.returned (.int .i64 0)∧Keep [] w w':=by
 have hS:=JI w base s d Fs B R.S h.st;have hm:=h.mode
 have hD:Calls Tryz.prog 60 #[.pointer (some ⟨s,0,none⟩)] w fun e w'=>e=.returned (.pointer (some ⟨d,0,none⟩))∧w=w':=by
  obtain⟨g,t,p,m,Fd,Ft,Fw,Fm,L0,L1,h2,hf⟩:=h.st;exact DiskS_is w base s d g t p m Fd Ft Fw Fm L0 L1 B R.S h2
 have hO:Calls Tryz.prog 61 #[.pointer (some ⟨d,0,none⟩)] w fun e w'=>e=.returned (.bool false)∧w=w':=by
  obtain⟨g,t,p,m,Fd,Ft,Fw,Fm,L0,L1,h2,hf⟩:=h.st;have:=Kx w base d Fd R.S.D h2.log.disk
  rwa [h2.log.off] at this
 obtain⟨c0,c1⟩:=h.cells;rw[hm] at hS;clear hm;have hfd:=fun(a b c e f g h' i j:Value) W=>ZE (P:=Tryz.prog) Tryz.underlying72 0 rfl Tryz.isAgg3 #[.int .i64 1,a,b,c,e,f,g,h',i,j] rfl W
 go_enter Tryz.func141,Tryz.ntmps141
 go_wp2_with (first
  | (go_at_call 60;refine hD.mono ?_;clear hD;rintro e w' ⟨rfl,rfl⟩)
  | (go_at_call 61;refine hO.mono ?_;clear hO;rintro e w' ⟨rfl,rfl⟩)
  | (go_at_call 85;refine hS.mono ?_;clear hS;rintro e w1 ⟨rfl,hk1⟩))
 go_ret;exact⟨rfl,hk1⟩
end
end
section
open Go.RowKit Go.Shelf
section
variable (w:World) (base r s d x:Nat) (Fs Fx:List Nat) (B:Nat) (R:RS) (h:ReplicaIs w base r s d x Fs Fx B R)
include h
theorem ImageAt_st:∃ m,(∀ W,Keep [] w W→Calls Tryz.prog 15 #[.pointer (some ⟨s,0,none⟩)] W fun e w'=>e=.returned (.pointer (some ⟨m,0,none⟩))∧W=w')∧(∀ W,Keep [] w W→Calls Tryz.prog 111 #[.pointer (some ⟨m,0,none⟩)] W fun e w'=>e=.returned (.int .i64 (B:Nat))∧W=w')∧B≤64:=by
 obtain⟨g,t,p,m,Fd,Ft,Fw,Fm,L0,L1,h2,hf⟩:=h.st;exact⟨m,fun W hk=>ImageS_is W base s d g t p m Fd Ft Fw Fm L0 L1 B R.S (h2.keep0 hk),fun W hk=>BlocksS_is W base s d g t p m Fd Ft Fw Fm L0 L1 B R.S (h2.keep0 hk),h2.log.geom.few⟩
theorem Zs (k v q b c e dn:Nat) (D:Value) (hk:k=1∨k=2) (hb:b+max c 1≤B) (A:Option Addr) (n m:Nat) (hD:D=.slice A n m):Calls Tryz.prog 142 #[.pointer (some ⟨r,0,none⟩),.agg #[.int .i64 k,.int .i64 v,.int .i64 q,.int .i64 b,.int .i64 c,.int .i64 e,.int .i64 dn,D]] w fun e w'=>e=.returned (.bool false)∧Keep [] w w':=by
 subst hD;obtain⟨mm,hI,hBl,h64⟩:=ImageAt_st w base r s d x Fs Fx B R h;obtain⟨c0,c1⟩:=h.cells;have hrl:=h.blk.lt;obtain⟨mx,hmx⟩:∃ mx:Nat,max ((c:Nat):Int) 1=(mx:Nat)∧b+mx≤B:=⟨max c 1,by omega,hb⟩;obtain⟨hmx,hb2⟩:=hmx;have hkA:Keep [] w (w.alloc (.cells #[.int .i64 k,.int .i64 v,.int .i64 q,.int .i64 b,.int .i64 c,.int .i64 e,.int .i64 dn,.slice A n m] 152)):=(Keep.refl _ _).alloc _;have hbF:=Blk.new w 152 #[.int .i64 k,.int .i64 v,.int .i64 q,.int .i64 b,.int .i64 c,.int .i64 e,.int .i64 dn,.slice A n m];have c0A:=(h.keep0 hkA).cells.1;clear h hb
 go_enter Tryz.func142,Tryz.ntmps142
 go_wp2_with fail
 obtain⟨f0,f1,f2,f3,f4,f5,f6,f7⟩:=QC hbF;have hbI:((b:Nat):Int)+(mx:Nat)≤(B:Nat):=by omega
 rcases hk with rfl | rfl
 · refine ZT (fun w'=>w'.cell? ⟨w.heap.size,0,none⟩=some (.int .i64 ((1:Nat):Int))∧w'.cell? ⟨w.heap.size,3,none⟩=some (.int .i64 (b:Nat))∧w'.cell? ⟨r,0,none⟩=some (.pointer (some ⟨s,0,none⟩))) 23 [[0,1,2,3,4,5,6,7,8,9,10,11,12,13,14,15,16,17,18,19,20],[21],[22]] ⟨f0,f3,c0A⟩ ?_
   simp only[PI]
   iterate 8 (refine ZH ?_;simp only[Act.put,PU])
   iterate 3 (refine JL (by rfl) ?_;simp only[Act.put,PU])
   iterate 10 (refine ZH ?_;simp only[Act.put,PU])
   refine XB (by rfl) (fun K hK=>?_)
   go_wp2_with (refine(hI _ hkA.drew).mono ?_;rintro e w' ⟨rfl,rfl⟩)
   refine hK _ _ (⟨f0,f3,c0A⟩) ?_;clear hK K
   try simp only[Act.put,PU]
   refine XB (by rfl) (fun K hK=>?_)
   go_wp2_with (refine(hBl _ hkA.drew).mono ?_;rintro e w' ⟨rfl,rfl⟩)
   refine hK _ _ (⟨f0,f3,c0A⟩) ?_;clear hK K
   try simp only[Act.put,PU]
   refine YB ?_
   go_wp2_with fail
   go_ret;exact⟨by simpa using hbI,hkA.drew⟩
 · refine ZT (fun w'=>w'.cell? ⟨w.heap.size,0,none⟩=some (.int .i64 ((2:Nat):Int))∧w'.cell? ⟨w.heap.size,3,none⟩=some (.int .i64 (b:Nat))∧w'.cell? ⟨r,0,none⟩=some (.pointer (some ⟨s,0,none⟩))) 23 [[0,1,2,3,4,5,6,7,8,9,10,11,12,13,14,15,16,17,18,19,20],[21],[22]] ⟨f0,f3,c0A⟩ ?_
   simp only[PI]
   iterate 21 (refine ZH ?_;simp only[Act.put,PU])
   refine XB (by rfl) (fun K hK=>?_)
   go_wp2_with (refine(hI _ hkA.drew).mono ?_;rintro e w' ⟨rfl,rfl⟩)
   refine hK _ _ (⟨f0,f3,c0A⟩) ?_;clear hK K
   try simp only[Act.put,PU]
   refine XB (by rfl) (fun K hK=>?_)
   go_wp2_with (refine(hBl _ hkA.drew).mono ?_;rintro e w' ⟨rfl,rfl⟩)
   refine hK _ _ (⟨f0,f3,c0A⟩) ?_;clear hK K
   try simp only[Act.put,PU]
   refine YB ?_
   go_wp2_with fail
   go_ret;exact⟨by simpa using hbI,hkA.drew⟩
omit h in
theorem Zx (v q b c e dn:Nat) (A:Option Addr) (n m:Nat):Calls Tryz.prog 142 #[.pointer (some ⟨r,0,none⟩),.agg #[.int .i64 3,.int .i64 v,.int .i64 q,.int .i64 b,.int .i64 c,.int .i64 e,.int .i64 dn,.slice A n m]] w fun e w'=>e=.returned (.bool false)∧Keep [] w w':=by
 have hkA:Keep [] w (w.alloc (.cells #[.int .i64 3,.int .i64 v,.int .i64 q,.int .i64 b,.int .i64 c,.int .i64 e,.int .i64 dn,.slice A n m] 152)):=(Keep.refl _ _).alloc _;have hbF:=Blk.new w 152 #[.int .i64 3,.int .i64 v,.int .i64 q,.int .i64 b,.int .i64 c,.int .i64 e,.int .i64 dn,.slice A n m];obtain⟨mx,hmx⟩:∃ mx:Int,max ((c:Nat):Int) 1=mx:=⟨_,rfl⟩
 go_enter Tryz.func142,Tryz.ntmps142
 go_wp2_with fail
 obtain⟨f0,f1,f2,f3,f4,f5,f6,f7⟩:=QC hbF;refine ZT (fun w'=>w'.cell? ⟨w.heap.size,0,none⟩=some (.int .i64 3)) 23 [[0,1,2,3,4,5,6,7,8,9,10,11,12,13,14,15,16,17,18,19,20],[21],[22]] f0 ?_;simp only[PI]
 iterate 13 (refine ZH ?_;simp only[Act.put,PU])
 iterate 8 (refine JL (by rfl) ?_;simp only[Act.put,PU])
 refine XG (by rfl) f0 ?_;simp only[Act.put,PU];refine XG (by rfl) f0 ?_;simp only[Act.put,PU];refine YB ?_
 go_wp2_with fail
 go_ret;exact⟨rfl,hkA.drew⟩
theorem JAu (k j:Nat) (hg:Good B R.S k j) (hk:k≤50) (hj:j≤20000) (o:POp) (ho:Xe B o) (hm:o.k=3→o.e=R.S.st.epoch+1) (A:Option Addr) (dl c:Nat) (hr:Rd w A dl (bys o.d)) (hA:∀ y,A=some y→y.block∉Fs) :
 Calls Tryz.prog 235 #[.pointer (some ⟨r,0,none⟩),.agg #[.int .i64 o.k,.int .i64 o.b,.int .i64 o.c,.int .i64 o.e,.slice A dl c]] w fun e w'=>e=.returned (.int .i64 0)∧∃ Fs' S',StoreAt w' base s d Fs' B S'∧Does B R.S o S'∧Keep Fs w w'∧Grow w Fs Fs':=by
 obtain⟨ok,ob,oc,oe,od⟩:=o;simp only at hm hr ⊢;have hdl:od.length=dl:=by simpa using hr.1
 have hkA:Keep [] w (w.alloc (.cells #[.int .i64 ok,.int .i64 ob,.int .i64 oc,.int .i64 oe,.slice A dl c] 137)):=(Keep.refl _ _).alloc _;have hbO:=Blk.new w 137 #[.int .i64 ok,.int .i64 ob,.int .i64 oc,.int .i64 oe,.slice A dl c];have hst:=h.st.keep0 hkA.drew;have hmode:=h.mode;have c0A:=(h.keep0 hkA).cells.1;obtain⟨o0,o1,o2,o3,o4⟩:=JF hbO;rcases ho with⟨h1,h2,h3,h4⟩ | ⟨h1,h2,h3,h4⟩ | ⟨h1,h2,h3⟩
 · simp only at h1 h2 h3 h4
   subst h1;obtain⟨b,rfl⟩:∃ b:Nat,ob=b:=⟨ob.toNat,by omega⟩;obtain rfl:dl=64:=by omega
   have hW:=JAi _ base s d Fs B R.S hst k j hg hk hj hmode b (by omega) A c od (hr.keep hkA.drew) hA;clear h hst
   go_enter Tryz.func235,Tryz.ntmps235
   go_wp2_with fail
   refine ZT (fun w'=>w'.cell? ⟨r,0,none⟩=some (.pointer (some ⟨s,0,none⟩))∧w'.cell? ⟨w.heap.size,1,none⟩=some (.int .i64 (b:Nat))∧w'.cell? ⟨w.heap.size,4,none⟩=some (.slice A 64 c)) 8 [[0,1,2,3,4,5,6,7]] ⟨c0A,o1,o4⟩ ?_;simp only[PI]
   iterate 8 (refine ZH ?_;simp only[Act.put,PU])
   refine YB ?_
   go_wp2_with (refine hW.mono ?_;clear hW;rintro e w2 ⟨rfl,F',S',g1,g2,g3,g4⟩)
   go_ret;exact⟨rfl,F',S',g1,.inl ⟨rfl,by simpa using g2⟩,hkA.drew.zero.trans g3 (fun x hx=>.inl hx),g4.keep hkA.drew⟩
 · simp only at h1 h2 h3 h4
   subst h1;obtain⟨b,rfl⟩:∃ b:Nat,ob=b:=⟨ob.toNat,by omega⟩;obtain⟨n,rfl⟩:∃ n:Nat,oc=n:=⟨oc.toNat,by omega⟩;have hW:=KAz _ base s d Fs B R.S hst k j hg hk hj hmode b n (by omega) (by omega);clear h hst
   go_enter Tryz.func235,Tryz.ntmps235
   go_wp2_with fail
   refine ZT (fun w'=>w'.cell? ⟨r,0,none⟩=some (.pointer (some ⟨s,0,none⟩))∧w'.cell? ⟨w.heap.size,1,none⟩=some (.int .i64 (b:Nat))∧w'.cell? ⟨w.heap.size,2,none⟩=some (.int .i64 (n:Nat))) 8 [[0,1,2,3,4,5,6,7]] ⟨c0A,o1,o2⟩ ?_;simp only[PI]
   iterate 8 (refine ZH ?_;simp only[Act.put,PU])
   refine YB ?_
   go_wp2_with (refine hW.mono ?_;clear hW;rintro e w2 ⟨rfl,F',S',g1,g2,g3,g4⟩)
   go_ret;exact⟨rfl,F',S',g1,.inr (.inl ⟨rfl,by simpa using g2⟩),hkA.drew.zero.trans g3 (fun x hx=>.inl hx),g4.keep hkA.drew⟩
 · simp only at h1 h2 h3
   subst h1;have hoe:=hm rfl;obtain⟨e,rfl⟩:∃ e:Nat,oe=e:=⟨oe.toNat,by omega⟩;have hW:=QAv _ base s d Fs B R.S hst k j hg hk hj hmode e (by omega);have HM:=JB hoe;clear h hst hm hoe
   go_enter Tryz.func235,Tryz.ntmps235
   go_wp2_with fail
   refine ZT (fun w'=>w'.cell? ⟨r,0,none⟩=some (.pointer (some ⟨s,0,none⟩))∧w'.cell? ⟨w.heap.size,3,none⟩=some (.int .i64 (e:Nat))) 6 [[0,1,2,3,4,5]] ⟨c0A,o3⟩ ?_;simp only[PI]
   iterate 6 (refine ZH ?_;simp only[Act.put,PU])
   refine YB ?_
   go_wp2_with (refine hW.mono ?_;clear hW;rintro e w2 ⟨rfl,F',S',g1,g2,g3,g4⟩)
   go_ret;exact⟨rfl,F',S',g1,.inr (.inr ⟨rfl,XA HM,by simpa using g2⟩),hkA.drew.zero.trans g3 (fun x hx=>.inl hx),g4.keep hkA.drew⟩
theorem JAn (o:POp) (h3:o.k=3) (ho:Xe B o) (hm:o.e≠R.S.st.epoch+1) (heb:R.S.st.epoch≤1000000000) (A:Option Addr) (dl c:Nat) :
 Calls Tryz.prog 235 #[.pointer (some ⟨r,0,none⟩),.agg #[.int .i64 o.k,.int .i64 o.b,.int .i64 o.c,.int .i64 o.e,.slice A dl c]] w fun e w'=>e=.returned (.int .i64 1)∧Keep [] w w':=by
 obtain⟨ok,ob,oc,oe,od⟩:=o;simp only at hm h3 ⊢;subst h3;have hkA:Keep [] w (w.alloc (.cells #[.int .i64 3,.int .i64 ob,.int .i64 oc,.int .i64 oe,.slice A dl c] 137)):=(Keep.refl _ _).alloc _;have hbO:=Blk.new w 137 #[.int .i64 3,.int .i64 ob,.int .i64 oc,.int .i64 oe,.slice A dl c];have c0A:=(h.keep0 hkA).cells.1;obtain⟨o0,o1,o2,o3,o4⟩:=JF hbO
 obtain⟨e,rfl⟩:∃ e:Nat,oe=e:=by
  rcases ho with⟨h1,_⟩ | ⟨h1,_⟩ | ⟨_,h1,_⟩
  · simp at h1
  · simp at h1
  · exact⟨oe.toNat,by simp only at h1;omega⟩
 have hW:=VAh _ base s d Fs B R.S (h.st.keep0 hkA.drew) h.mode e (by omega) heb;clear h hm
 go_enter Tryz.func235,Tryz.ntmps235
 go_wp2_with fail
 refine ZT (fun w'=>w'.cell? ⟨r,0,none⟩=some (.pointer (some ⟨s,0,none⟩))∧w'.cell? ⟨w.heap.size,3,none⟩=some (.int .i64 (e:Nat))) 6 [[0,1,2,3,4,5]] ⟨c0A,o3⟩ ?_;simp only[PI]
 iterate 6 (refine ZH ?_;simp only[Act.put,PU])
 refine YB ?_
 go_wp2_with (refine hW.mono ?_;clear hW;rintro e w2 ⟨rfl,rfl⟩)
 go_ret;exact⟨rfl,hkA.drew⟩
end
end
section
open Go.RowKit Go.Shelf
theorem XAo (st:PSt) (o:POp):(VAJ st o).mode=st.mode∧(VAJ st o).view=st.view∧(VAJ st o).seq=st.seq+1:=by
 unfold VAJ
 split <;> simp
def JBD (w:World) (base r s d x:Nat) (Fs Fx:List Nat) (B:Nat) (R:RS) (k j:Nat) (e:Ending) (w':World):Prop:=
 ∃ Fs' Fx' R' er,ReplicaIs w' base r s d x Fs' Fx' B R'∧Ran B R R' er∧Good B R'.S (k+KE R.sl) (j+2*KE R.sl)∧(∀ q∈R'.sl,q.is=true→Xe B q.o)∧Keep (JO r Fs Fx) w w'∧Grow w (JO r Fs Fx) (JO r Fs' Fx') ∧
   ((er=0∧∃ u,e=.returned (.tuple #[u,.int .i64 0])∧w'.ownsRow w.heap.size 5 1 u 25 (bys (KF 8 R'.S.st.view R'.S.st.seq 0 0 R'.S.st.epoch R'.S.st.done [])))∨(er=1∧e=.returned (.tuple #[.slice none 0 0,.int .i64 1])))
structure OnInv (w:World) (base r s d x:Nat) (Fs Fx:List Nat) (B:Nat) (R:RS) (k j:Nat) (Fs1 Fx1:List Nat) (R1:RS) (k1 j1 bo:Nat) (A:Option Addr) (c:Nat) (wr:World):Prop where
 rep:ReplicaIs wr base r s d x Fs1 Fx1 B R1
 ran:∀ R' e,Ran B R1 R' e→Ran B R R' e
 good:Good B R1.S k1 j1
 kb:k1+KE R1.sl≤k+KE R.sl
 jb:j1+2*KE R1.sl≤j+2*KE R.sl
 nb:R1.next+KE R1.sl=R.next+KE R.sl
 ops:∀ q∈R1.sl,q.is=true→Xe B q.o
 keep:Keep (JO r Fs Fx) w wr
 grow:Grow w (JO r Fs Fx) (JO r Fs1 Fx1)
 blk:Blk wr bo 137 #[.int .i64 R1.cur.o.k,.int .i64 R1.cur.o.b,.int .i64 R1.cur.o.c,.int .i64 R1.cur.o.e,.slice A R1.cur.o.d.length c]
 val:R1.cur.v=.slice A R1.cur.o.d.length c
 bnew:bo∉JO r Fs1 Fx1
 bge:w.heap.size≤bo
theorem RS.cur_get (R:RS) (h:1≤R.sl.length):∃ hi:R.next % R.sl.length<R.sl.length,R.cur=R.sl[R.next % R.sl.length]:=by
 have hi:R.next % R.sl.length<R.sl.length:=Nat.mod_lt _ h;exact⟨hi,by unfold RS.cur;rw[List.getD_eq_getElem?_getD,List.getElem?_eq_getElem hi];rfl⟩
def XAs (x:Nat) (w:World):Nat:=match w.cell? ⟨x,1,none⟩ with | some (.int _ n)=>n.toNat | _=>0
theorem Xy {w:World} {base x n:Nat} {L:Value} {F:List Nat} {sl:List PSlot} (h:WinIs w base x L F n sl):XAs x w=n:=by
 unfold XAs;rw[h.cells.2];simp
theorem ZBR (w:World) (base r s d x:Nat) (Fs Fx:List Nat) (B:Nat) (R:RS) (h:ReplicaIs w base r s d x Fs Fx B R) (k j:Nat) (hg:Good B R.S k j) (hk:k+KE R.sl≤50) (hj:j≤10000) (hn:R.next≤1000000) (hop:∀ q∈R.sl,q.is=true→Xe B q.o) :
 Calls Tryz.prog 146 #[.pointer (some ⟨r,0,none⟩)] w (JBD w base r s d x Fs Fx B R k j):=by
 have hpl:KE R.sl≤16:=by
  obtain⟨L,hw⟩:=h.win;exact Nat.le_trans (XAV _) hw.few
 have hP:Calls Tryz.prog 234 #[.pointer (some ⟨x,0,none⟩)] w fun e w'=>∃ q,R.cur=q∧e=.returned (.tuple #[.agg #[.int .i64 q.o.k,.int .i64 q.o.b,.int .i64 q.o.c,.int .i64 q.o.e,q.v],.bool q.is])∧(∃ A c,q.v=.slice A q.o.d.length c)∧Keep [] w w':=by
  obtain⟨L,hw⟩:=h.win;exact PeekW_is w base x L Fx R.next R.sl hw
 obtain⟨c0,c1⟩:=h.cells
 go_enter Tryz.func146,Tryz.ntmps146
 go_wp2_with (
  (refine hP.mono ?_)
  clear hP;rintro e w1 ⟨q,hq,rfl,⟨A,c,hqv⟩,hk1⟩;rw[hqv])
 have hkA:Keep [] w (w1.alloc (.cells #[.int .i64 q.o.k,.int .i64 q.o.b,.int .i64 q.o.c,.int .i64 q.o.e,.slice A q.o.d.length c] 137)):=hk1.alloc _
 have h0:OnInv w base r s d x Fs Fx B R k j Fs Fx R k j w1.heap.size A c (w1.alloc (.cells #[.int .i64 q.o.k,.int .i64 q.o.b,.int .i64 q.o.c,.int .i64 q.o.e,.slice A q.o.d.length c] 137)):=by
  subst hq;exact⟨h.keep0 hkA,fun _ _ h=>h,hg,Nat.le_refl _,Nat.le_refl _,rfl,hop,hkA.zero,Grow.refl _ _,Blk.new _ _ _,hqv,fun hm=>by have:=h.lt _ hm;have:=hk1.size;omega,hk1.size⟩
 have hqi:R.cur.is=q.is:=by rw[hq]
 go_loopw [4,5,6] (fun a b _ wr=>∃ Fs1 Fx1 R1 k1 j1 bo A1 c1,a=.pointer (some ⟨bo,0,none⟩)∧b=.bool R1.cur.is∧OnInv w base r s d x Fs Fx B R k j Fs1 Fx1 R1 k1 j1 bo A1 c1 wr) (fun _ _ _ wr=>R.next+KE R.sl-XAs x wr)
 case atStart=>exact⟨Fs,Fx,R,k,j,w1.heap.size,A,c,rfl,by rw[hqi],h0⟩
 case round=>
  clear h0 hkA c0 c1 hqv hqi hk1 hq;obtain⟨Fs1,Fx1,R1,k1,j1,bo,A1,cc,rfl,rfl,hI⟩:=hrel;obtain⟨c0,c1⟩:=hI.rep.cells;obtain⟨o0,o1,o2,o3,o4⟩:=JF hI.blk;have hgd:=hI.good;have hseq:=hgd.seq;have hepo:=hgd.epoch;have hdon:=hgd.done;have hkb:=hI.kb;have hjb:=hI.jb;have hnb:=hI.nb;obtain⟨q,hqc⟩:∃ q,R1.cur=q:=⟨_,rfl⟩;have hval:=hI.val;have hblk:=hI.blk;rw[hqc] at o0 o1 o2 o3 o4 hval hblk ⊢;have HQ:=JB hqc
  by_cases hcur:q.is=true
  · obtain⟨L1,hw1⟩:=hI.rep.win
    obtain⟨hi,hce⟩:=R1.cur_get hw1.pos;have hmem:q∈R1.sl:=by rw[← hqc,hce];exact List.getElem_mem _
    have ho:=hI.ops _ hmem hcur;have hdat:=hw1.dat _ hmem;have hA1:∀ y,A1=some y→y.block∉Fs1:=fun y hy hm=>hI.rep.ap _ hm (hw1.inQ hmem _ (by rw[hval,hy];simp[Value.ownBlock]));have hpc:=XAK hi (by rw[← hce,hqc];exact hcur);have hbo1:bo∉Fs1:=fun hm=>hI.bnew (by simp[JO,hm]);have hbo2:bo∉Fx1:=fun hm=>hI.bnew (by simp[JO,hm]);have hq:(R1.sl.getD (R1.next % R1.sl.length) PSlot.none_).is=true:=by show R1.cur.is=true;rw[hqc];exact hcur
    clear hqc hce hmem;obtain⟨qv,⟨ok,ob,oc,oe,od⟩,qi⟩:=q;simp only at o0 o1 o2 o3 o4 hval hblk hcur hdat ⊢;subst hcur;subst hval;have hRep:=hI.rep
    by_cases hbad:ok=3∧oe≠R1.S.st.epoch+1
    · have hD:=JAn wr base r s d x Fs1 Fx1 B R1 hI.rep ⟨ok,ob,oc,oe,od⟩ hbad.1 ho hbad.2 (by omega) A1 od.length cc
      have HB:=JB hbad;have HI:=JB hI;clear hbad hI;simp only at hD
      go_wp2_with (first
       | (go_at_call 235
          refine hD.mono ?_;clear hD;rintro e w2 ⟨rfl,hk2⟩;have hC:=QAr w2 base x L1 Fx1 R1.next R1.sl (hw1.keep0 hk2) hq
          obtain⟨d0,d1⟩:=(hRep.keep0 hk2).cells)
       | (go_at_call 236
          refine hC.mono ?_;clear hC;rintro e w3 ⟨rfl,F3,h3,hk3,hF3⟩))
      go_ret2;have hI:=XA HI;obtain⟨hb1,hb2⟩:=XA HB;have hcq:=XA HQ;have hr3:=(hI.rep.keep0 hk2).setWin ⟨L1,h3⟩ hk3 (fun y hy=>.inl (hF3 y hy));refine⟨Fs1,F3,⟨R1.S,R1.next,R1.cut⟩,1,hr3,hI.ran _ _ (Ran.bad (by rw[hcq]) (by rw[hcq];exact hb1) (by rw[hcq];exact hb2)),hgd.mono (by omega) (by omega),?_,?_,?_,.inr ⟨rfl,rfl⟩⟩
      · intro q hq' hqi
        rcases List.mem_or_eq_of_mem_set hq' with hq' | rfl
        · exact hI.ops q hq' hqi
        · cases hqi
      · exact(hI.keep.trans0 hk2).trans hk3 (fun y hy=>hI.grow y (by simp[JO,hy]))
      · intro y hy
        apply hI.grow y;simp only[JO,List.mem_cons,List.mem_append] at hy ⊢;rcases hy with hy | hy | hy
        · exact .inl hy
        · exact .inr (.inl hy)
        · exact .inr (.inr (hF3 y hy))
    · have hD:=JAu wr base r s d x Fs1 Fx1 B R1 hI.rep k1 j1 hgd (by omega) (by omega) ⟨ok,ob,oc,oe,od⟩ ho (fun h3=>by by_cases he:oe=R1.S.st.epoch+1;exact he;exact absurd ⟨h3,he⟩ hbad) A1 od.length cc (Rd.of_own hdat) hA1
      have HI:=JB hI;clear hbad hI;simp only at hD
      go_wp2_with (first
       | (go_at_call 235
          refine hD.mono ?_;clear hD;rintro e w2 ⟨rfl,Fs2,S2,hs2,hdo,hk2,hg2⟩;obtain⟨hgd2,hst2⟩:=hdo.good ho hgd (by omega) (by omega);obtain⟨hmo,hvi,_⟩:=XAo R1.S.st ⟨ok,ob,oc,oe,od⟩;have hr2:=hRep.setSt hs2 hk2 hg2 (by rw[hst2,hmo];exact hRep.mode) (by rw[hst2,hvi]);have hw2:=hw1.keep hk2 hRep.ap.symm;have hPp:=KBL w2 base x L1 Fx1 R1.next R1.sl hw2 hq (by omega);have hb2:=hblk.keep hk2 hbo1
          obtain⟨d0,d1⟩:=hr2.cells)
       | (go_at_call 237
          refine hPp.mono ?_;clear hPp;rintro e w3 ⟨_,_,rfl,F3,h3,hk3,hF3⟩;have hr3:=hr2.setWin ⟨L1,h3⟩ hk3 (fun y hy=>.inl (hF3 y hy));have hb3:=hb2.keep hk3 hbo2;have hlt3:=hb3.lt;obtain⟨o0,o1,o2,o3,o4⟩:=JF hb3;obtain⟨d0,d1⟩:=hr3.cells;have hrl:=hr3.blk.lt;have hkB:Keep [] w3 (w3.alloc (.cells #[.int .i64 ok,.int .i64 ob,.int .i64 oc,.int .i64 oe,.slice A1 od.length cc] 137)):=(Keep.refl _ _).alloc _;have hPk:=PeekW_is _ base x L1 F3 (R1.next+1) (R1.sl.set (R1.next % R1.sl.length) PSlot.none_) (h3.keep0 hkB)
          have hbn:=Blk.new w3 137 #[.int .i64 ok,.int .i64 ob,.int .i64 oc,.int .i64 oe,.slice A1 od.length cc])
       | (go_at_call 234
          refine hPk.mono ?_;clear hPk;rintro e w4 ⟨q,hq4,rfl,⟨A4,c4,hqv4⟩,hk4⟩;rw[hqv4];replace hbn:=hbn.keep0 hk4;obtain⟨z0,z1,z2,z3,z4⟩:=JF hbn;have f0:=hbn.frozen 0;have f1:=hbn.frozen 1;have f2:=hbn.frozen 2;have f3:=hbn.frozen 3;have f4:=hbn.frozen 4))
      have h5:=hbn.put5 (.int .i64 q.o.k) (.int .i64 q.o.b) (.int .i64 q.o.c) (.int .i64 q.o.e) (.slice A4 q.o.d.length c4);have hk5:=Keep.put5 w4 w3.heap.size (.int .i64 q.o.k) (.int .i64 q.o.b) (.int .i64 q.o.c) (.int .i64 q.o.e) (.slice A4 q.o.d.length c4);unfold put5 at h5 hk5;have hcu:(⟨S2,R1.next+1,R1.cut⟩:RS).cur=q:=hq4
      have hap5:Apart (JO r Fs2 F3) [w3.heap.size]:=fun y hy hm=>by
       simp at hm;have:=hr3.lt y hy;omega
      have hr5:=(hr3.keep0 (hkB.trans0 hk4)).keep hk5 hap5;have hI:=XA HI;have hcq:=XA HQ;have hsz2:=hk2.size;have hsz3:=hk3.size;have hszI:=hI.keep.size;have hx0:=Xy hw1
      go_roundw
      case rel=>
       refine⟨Fs2,F3,⟨S2,R1.next+1,R1.cut⟩,k1+1,j1+2,w3.heap.size,A4,c4,rfl,by rw[hcu],⟨hr5,fun R' e h=>hI.ran R' e (Ran.step (by rw[hcq]) (by rw[hcq];exact hdo) h),hgd2,?_,?_,?_,?_,?_,?_,?_,?_,?_,?_⟩⟩
       · show k1+1+KE R1.cut≤_
         have:KE R1.cut+1=KE R1.sl:=hpc;omega
       · show j1+2+2*KE R1.cut≤_
         have:KE R1.cut+1=KE R1.sl:=hpc;omega
       · show R1.next+1+KE R1.cut=_
         have:KE R1.cut+1=KE R1.sl:=hpc;omega
       · intro q' hq' hqi
         rcases List.mem_or_eq_of_mem_set hq' with hq' | rfl
         · exact hI.ops q' hq' hqi
         · cases hqi
       · refine(((hI.keep.trans hk2 (fun y hy=>hI.grow y (by simp[JO,hy]))).trans hk3 (fun y hy=>hI.grow y (by simp[JO,hy]))).trans0 (hkB.trans0 hk4)).trans hk5 (fun y hy=>.inr ?_)
         simp at hy;omega
       · intro y hy
         simp only[JO,List.mem_cons,List.mem_append] at hy;rcases hy with hy | hy | hy
         · exact hI.grow y (by simp[JO,hy])
         · rcases hg2 y hy with hy | hy
           · exact hI.grow y (by simp[JO,hy])
           · exact .inr (by omega)
         · exact hI.grow y (by simp[JO,hF3 y hy])
       · rw[hcu];exact h5
       · rw[hcu];exact hqv4
       · exact fun hm=>by have:=hr3.lt _ hm;omega
       · omega
      case measure=>
       obtain⟨L5,hw5⟩:=hr5.win;have hx5:=Xy hw5;have:KE R1.cut+1=KE R1.sl:=hpc;simp only[hx0];refine Nat.lt_of_le_of_lt (Nat.le_of_eq (congrArg (fun z=>R.next+KE R.sl-z) hx5)) ?_;show R.next+KE R.sl-(R1.next+1)<R.next+KE R.sl-R1.next;omega
  · have hcf:q.is=false:=by simpa using hcur
    rw[hcf];have hAn:=Zj wr base r s d x Fs1 Fx1 B R1 hI.rep (by omega) (by omega) hdon
    go_wp2_with (refine hAn.mono ?_;clear hAn;rintro e w2 ⟨u,rfl,hu,hk2⟩)
    go_ret2;exact⟨Fs1,Fx1,R1,0,hI.rep.keep0 hk2,hI.ran _ _ (Ran.stop (by rw[XA HQ];exact hcf)),hgd.mono (by omega) (by omega),hI.ops,hI.keep.trans0 hk2,hI.grow,.inl ⟨rfl,u,rfl,ZC hu hI.keep.size⟩⟩
end
section
open Go.RowKit Go.Shelf
theorem Yt (k v s b c e d:Nat) (data:List UInt8) (hm:FrMay k v s b c e d data) (A:Option Addr) (n cp:Nat) (w:World) (ha:Rd w A n (bys (KF k v s b c e d data))) :
 Calls Tryz.prog 140 #[.slice A n cp] w fun r w'=>∃ UA uc,r=.returned (.tuple #[.agg #[.int .i64 k,.int .i64 v,.int .i64 s,.int .i64 b,.int .i64 c,.int .i64 e,.int .i64 d,.slice UA data.length uc],.int .i64 0])∧w'.ownsRow w.heap.size 5 1 (.slice UA data.length uc) data.length (bys data)∧Keep [] w w':=by
 have hb:=hm.bounds;have hl:n=25+data.length:=by have:=ha.1;simpa using this.symm
 refine(QAV A n cp _ w ha (by omega) (by omega)).mono ?_;rintro r w' ⟨hk,hP⟩;have hp:YQ (KF k v s b c e d data)=⟨k,v,s,b,c,e,d,data⟩:=KAB k v s b c e d data (by omega) (by omega) (by omega) (by omega) (by omega) (by omega) (by omega);rw[hp] at hP;rcases hP with⟨_,_,u,rfl,hu⟩ | ⟨hno,_⟩
 · have hlen:(KF k v s b c e d data).length-25=data.length:=by simp
   rw[hlen] at hu;obtain⟨UA,uc,rfl,_⟩:=ZB hu;exact⟨UA,uc,rfl,hu,hk⟩
 · exact absurd ⟨hm,rfl⟩ hno
theorem YBU (w:World) (base r s d x:Nat) (Fs Fx:List Nat) (B:Nat) (R:RS) (h:ReplicaIs w base r s d x Fs Fx B R) (hbase:base≤w.heap.size) (k b c e m fs:Nat) (xs:List UInt8) (A:Option Addr) (cp:Nat)
 (ha:Rd w A (25+m) (bys (KF k R.S.st.view fs b c e 0 xs))) (ho:OpMay k b c e m) (hlen:xs.length=m) (hfor:b+max c 1≤B∨k=3) (hfs:1≤fs∧fs≤2147483647) (Post:Ending→World→Prop)
 (hcont:∀ w5 UA uc,Keep [] w w5→w5.ownsRow w.heap.size 5 1 (.slice UA m uc) m (bys xs)→Calls Tryz.prog 145 #[.pointer (some ⟨x,0,none⟩),.int .i64 (fs:Nat),.agg #[.int .i64 k,.int .i64 b,.int .i64 c,.int .i64 e,.slice UA m uc]] w5 fun e5 w6=>
   (e5=.returned (.int .i64 0)∧Calls Tryz.prog 146 #[.pointer (some ⟨r,0,none⟩)] w6 (fun e w'=>∃ A n c z,e=.returned (.tuple #[.slice A n c,.int .i64 z])∧Post e w')) ∨
   (e5=.returned (.int .i64 9)∧Calls Tryz.prog 147 #[.pointer (some ⟨r,0,none⟩)] w6 (fun e w'=>∃ A n c,e=.returned (.tuple #[.slice A n c,.int .i64 0])∧Post (.returned (.tuple #[.slice A n c,.int .i64 9])) w')) ∨
   (e5=.returned (.int .i64 10)∧Post (.returned (.tuple #[.slice none 0 0,.int .i64 10])) w6)) :
 Calls Tryz.prog 83 #[.pointer (some ⟨r,0,none⟩),.slice A (25+m) cp] w Post:=by
 have hv:=h.view;have hfr:FrMay k R.S.st.view fs b c e 0 xs:=ho.fr hv hfs hlen;have hD:=Yt k R.S.st.view fs b c e 0 xs hfr A (25+m) cp w ha;have hOp:=fun UA uc W (hr:Rd W UA m (bys xs))=>ZBS k R.S.st.view fs b c e 0 UA m uc xs W hr (by have:=hfr.bounds;omega) (by rcases ho with⟨h,_⟩ | ⟨h,_⟩ | ⟨h,_⟩ <;> omega) (by rcases ho with⟨h,_⟩ | ⟨h,_⟩ | ⟨h,_⟩ <;> omega) hfr;have hR:=fun W (hk:Keep [] w W)=>readyR_ok W base r s d x Fs Fx B R (h.keep0 hk)
 have hSt:∀ UA uc W,Keep [] w W→Calls Tryz.prog 142 #[.pointer (some ⟨r,0,none⟩),.agg #[.int .i64 k,.int .i64 R.S.st.view,.int .i64 fs,.int .i64 b,.int .i64 c,.int .i64 e,.int .i64 (0:Nat),.slice UA m uc]] W fun e w'=>e=.returned (.bool false)∧Keep [] W w':=fun UA uc W hk=>by
  rcases hfor with hb | rfl
  · rcases ho with⟨h1,_⟩ | ⟨h1,_⟩ | ⟨h1,h2,h3,h4⟩
    · exact Zs W base r s d x Fs Fx B R (h.keep0 hk) k R.S.st.view fs b c e 0 _ (by omega) hb UA m uc rfl
    · exact Zs W base r s d x Fs Fx B R (h.keep0 hk) k R.S.st.view fs b c e 0 _ (by omega) hb UA m uc rfl
    · subst h1
      exact Zx W r R.S.st.view fs b c e 0 UA m uc
  · exact Zx W r R.S.st.view fs b c e 0 UA m uc
 have hSa:=fun W (hk:Keep [] w W)=>JI W base s d Fs B R.S (h.keep0 hk).st;have hcl:=fun W (hk:Keep [] w W)=>(h.keep0 hk).cells;rw[hlen] at hD;unfold frv at hOp;have hk9:¬ ((k:Nat):Int)=9:=by have:=ho;rcases this with⟨h,_⟩ | ⟨h,_⟩ | ⟨h,_⟩ <;> omega
 have hk9b:(((k:Nat):Int) == 9)=false:=by simpa using hk9
 clear h ha hfr hv hfor;have HO:=JB ho;clear ho;generalize R.S.st=st at *;obtain⟨mode,view,epoch,seq,done,mount,gen⟩:=st;simp only at hD hOp hSt hSa;have hfd:=fun(a0 a1 a2 a3 a4 a5 a6 a7 a8 a9:Value) W=>ZE (P:=Tryz.prog) Tryz.underlying72 1 rfl Tryz.isAgg3 #[a0,a1,a2,a3,a4,a5,a6,a7,a8,a9] rfl W
 go_enter Tryz.func83,Tryz.ntmps83
 go_wp2_with (first
  | (go_at_call 140
     refine hD.mono ?_;clear hD;rintro e1 w1 ⟨UA,uc,rfl,hu,hk1⟩;have hbF:=Blk.new w1 152 #[.int .i64 k,.int .i64 view,.int .i64 fs,.int .i64 b,.int .i64 c,.int .i64 e,.int .i64 (0:Nat),.slice UA m uc];have hkA:Keep [] w (w1.alloc (.cells #[.int .i64 k,.int .i64 view,.int .i64 fs,.int .i64 b,.int .i64 c,.int .i64 e,.int .i64 (0:Nat),.slice UA m uc] 152)):=hk1.alloc _
     have huA:=XD hu (.cells #[.int .i64 k,.int .i64 view,.int .i64 fs,.int .i64 b,.int .i64 c,.int .i64 e,.int .i64 (0:Nat),.slice UA m uc] 152))
  | (go_at_call 141
     refine(hR _ hkA).mono ?_;clear hR;rintro e2 w2 ⟨rfl,hk2⟩;replace hbF:=hbF.keep0 hk2;replace hkA:=hkA.trans0 hk2;replace huA:=KA huA hk2
     obtain⟨f0,f1,f2,f3,f4,f5,f6,f7⟩:=QC hbF)
  | (go_at_call 142
     refine(hSt _ _ _ hkA).mono ?_;clear hSt;rintro e3 w3 ⟨rfl,hk3⟩;replace hbF:=hbF.keep0 hk3;replace hkA:=hkA.trans0 hk3;replace huA:=KA huA hk3;obtain⟨f0,f1,f2,f3,f4,f5,f6,f7⟩:=QC hbF))
 have r0:=(hcl _ hkA).1;refine ZT (fun w'=>w'.cell? ⟨w1.heap.size,1,none⟩=some (.int .i64 (view:Nat))∧w'.cell? ⟨r,0,none⟩=some (.pointer (some ⟨s,0,none⟩))) 8 [[0,1,2,3,4,5],[6,7]] ⟨f1,r0⟩ ?_;simp only[PI]
 iterate 6 (refine ZH ?_;simp only[Act.put,PU])
 refine XB (by rfl) (fun K hK=>?_)
 go_wp2_with (
  refine(hSa _ hkA.drew).mono ?_;clear hSa;rintro e4 w4 ⟨rfl,hk4⟩;have hkB:=hkA.drew.trans0 hk4;have hbB:=hbF.drew.keep0 hk4;have huB:=KA huA ((Keep.refl _ _).drew.trans0 hk4))
 refine hK _ _ (⟨(QC hbB).2.1,(hcl _ hkB).1⟩) ?_;clear hK K
 try simp only[Act.put,PU]
 iterate 1 (refine ZH ?_;simp only[Act.put,PU])
 refine YB ?_;obtain⟨g0,g1,g2,g3,g4,g5,g6,g7⟩:=QC hbB;have hOp1:=hOp UA uc w4 (Rd.of_own huB)
 go_wp2_with (go_at_call 144
              refine hOp1.mono ?_;clear hOp1;rintro e5 w5 ⟨ua,rfl,hua,hk5⟩;obtain⟨A5,c5,rfl,hc5,_⟩:=ZB hua)
 have hkC:=(hkB.trans0 hk5).alloc (.cells #[.int .i64 k,.int .i64 b,.int .i64 c,.int .i64 e,.slice A5 m c5] 137);have hbC:=(hbB.keep0 hk5).keep0 ((Keep.refl _ _).alloc (.cells #[.int .i64 k,.int .i64 b,.int .i64 c,.int .i64 e,.slice A5 m c5] 137));have hbO:=Blk.new w5 137 #[.int .i64 k,.int .i64 b,.int .i64 c,.int .i64 e,.slice A5 m c5];obtain⟨o0,o1,o2,o3,o4⟩:=JF hbO;have r1:=(hcl _ hkC).2;have s2:=(QC hbC).2.2.1;have hcn:=hcont _ A5 c5 hkC.drew (KA (ZC hua hkB.size) (((Keep.refl _ _).alloc (.cells #[.int .i64 k,.int .i64 b,.int .i64 c,.int .i64 e,.slice A5 m c5] 137)).drew));clear hcont g0 g1 g2 g3 g4 g5 g6 g7 f0 f1 f2 f3 f4 f5 f6 f7;refine ZT (fun w'=>w'.cell? ⟨r,1,none⟩=some (.pointer (some ⟨x,0,none⟩))∧w'.cell? ⟨w1.heap.size,2,none⟩=some (.int .i64 (fs:Nat))∧w'.cell? ⟨w5.heap.size,0,none⟩=some (.int .i64 k)∧w'.cell? ⟨w5.heap.size,1,none⟩=some (.int .i64 b)∧w'.cell? ⟨w5.heap.size,2,none⟩=some (.int .i64 c)∧w'.cell? ⟨w5.heap.size,3,none⟩=some (.int .i64 e)∧w'.cell? ⟨w5.heap.size,4,none⟩=some (.slice A5 m c5)) 7 [[0,1,2,3,4,5,6]] ⟨r1,s2,o0,o1,o2,o3,o4⟩ ?_;simp only[PI]
 iterate 7 (refine ZH ?_;simp only[Act.put,PU])
 refine YB ?_
 go_wp2_with (go_at_call 145
              refine hcn.mono ?_;clear hcn;rintro e6 w6 h6;rcases h6 with⟨rfl,h6⟩ | ⟨rfl,h6⟩ | ⟨rfl,h6⟩)
 · go_wp2_with (refine h6.mono ?_
                clear h6;rintro e7 w7 ⟨A7,n7,c7,z7,rfl,h7⟩)
   exact h7
 · go_wp2_with (refine h6.mono ?_
                clear h6;rintro e7 w7 ⟨A7,n7,c7,rfl,h7⟩)
   exact h7
 · go_wp2
   exact h6
end
section
open Go.RowKit Go.Shelf
theorem Yp {sl:List PSlot} {i:Nat} (hi:i<sl.length) (h:(sl.getD i PSlot.none_).is=false) (q:PSlot) (hq:q.is=true):KE (sl.set i q)=KE sl+1:=by
 unfold KE;have hg:sl[i].is=false:=by simpa [List.getD_eq_getElem?_getD,hi] using h
 have:=List.countP_set (p:=(·.is)) (l:=sl) (i:=i) (a:=q) hi;rw[this,if_neg (by simp[hg]),if_pos hq];rfl
section
variable (w:World) (base r s d x:Nat) (Fs Fx:List Nat) (B:Nat) (R:RS) (h:ReplicaIs w base r s d x Fs Fx B R) (hbase:base≤w.heap.size) (k b c e m fs:Nat) (xs:List UInt8) (A:Option Addr) (cp:Nat)
 (ha:Rd w A (25+m) (bys (KF k R.S.st.view fs b c e 0 xs))) (ho:OpMay k b c e m) (hlen:xs.length=m) (hfor:b+max c 1≤B∨k=3) (hfs:1≤fs∧fs≤2147483647)
include h hbase ha ho hlen hfor hfs
theorem QAz (kk j:Nat) (hg:Good B R.S kk j) (hk:kk+KE R.sl≤49) (hj:j≤10000) (hnx:R.next≤1000000) (hop:∀ q∈R.sl,q.is=true→Xe B q.o) (hn1:R.next≤fs) (hn2:fs<R.next+R.sl.length) (hq:(R.sl.getD (fs % R.sl.length) PSlot.none_).is=false) (hof:Xe B ⟨k,b,c,e,xs⟩) :
 Calls Tryz.prog 83 #[.pointer (some ⟨r,0,none⟩),.slice A (25+m) cp] w fun en w'=>
  ∃ v,JBD w base r s d x Fs Fx B ⟨R.S,R.next,R.sl.set (fs % R.sl.length) ⟨v,⟨k,b,c,e,xs⟩,true⟩⟩ kk j en w':=by
 refine YBU w base r s d x Fs Fx B R h hbase k b c e m fs xs A cp ha ho hlen hfor hfs _ ?_;intro w5 UA uc hk5 hu;obtain⟨L,hw⟩:=h.win;have hi:fs % R.sl.length<R.sl.length:=Nat.mod_lt _ hw.pos;subst hlen;have hu5:=ZC hu hbase;refine(KBH w5 base x L Fx R.next R.sl (hw.keep0 hk5) fs hn1 hn2 hfs.2 hq k b c e UA uc xs hu5).mono ?_;rintro e5 w6 ⟨rfl,F',hw6,hk6,hF'⟩;refine .inl ⟨rfl,?_⟩;have hfresh:∀ z∈(Value.slice UA xs.length uc).ownBlock.toList,w.heap.size≤z:=fun z hz=>(own_mem hu hz).1
 have hr6:=(h.keep0 hk5).setWin ⟨L,hw6⟩ hk6 (fun y hy=>by
  rcases hF' y hy with h1 | h1
  · exact .inl h1
  · refine .inr ⟨fun hm=>?_,?_⟩
    · have:=hfresh y h1;have:=h.st.lt y hm;omega
    · have:=hfresh y h1;have:=h.blk.lt;omega)
 have hpr:=Yp hi hq ⟨.slice UA xs.length uc,⟨k,b,c,e,xs⟩,true⟩ rfl;have hkk:Keep (JO r Fs Fx) w w6:=hk5.zero.trans hk6 (fun y hy=>.inl (by simp[JO,hy]));refine(ZBR w6 base r s d x Fs F' B _ hr6 kk j hg (by simp only[hpr];omega) hj hnx ?_).mono ?_
 · intro q hq' hqi
   rcases List.mem_or_eq_of_mem_set hq' with hq' | rfl
   · exact hop q hq' hqi
   · exact hof
 · rintro e7 w7 ⟨Fs7,Fx7,R7,er,h1,h2,h3,h4,h5,h6,h7⟩
   have hsz6:=hkk.size
   have hg6:Grow w (JO r Fs Fx) (JO r Fs F'):=by
    intro y hy;simp only[JO,List.mem_cons,List.mem_append] at hy ⊢;rcases hy with hy | hy | hy
    · exact .inl (.inl hy)
    · exact .inl (.inr (.inl hy))
    · rcases hF' y hy with h8 | h8
      · exact .inl (.inr (.inr h8))
      · exact .inr (hfresh y h8)
   have hk7:Keep (JO r Fs Fx) w w7:=hkk.trans h5 hg6
   have hg7:Grow w (JO r Fs Fx) (JO r Fs7 Fx7):=fun y hy=>by
    rcases h6 y hy with h8 | h8
    · exact hg6 y h8
    · exact .inr (by omega)
   rcases h7 with⟨rfl,u,rfl,hu7⟩ | ⟨rfl,rfl⟩
   · obtain⟨A7,c7,rfl,_⟩:=ZB hu7
     exact⟨A7,_,c7,_,rfl,_,Fs7,Fx7,R7,0,h1,h2,h3,h4,hk7,hg7,.inl ⟨rfl,_,rfl,ZC hu7 hsz6⟩⟩
   · exact⟨none,0,0,_,rfl,_,Fs7,Fx7,R7,1,h1,h2,h3,h4,hk7,hg7,.inr ⟨rfl,rfl⟩⟩
end
theorem WinIs.down {w:World} {b1 b2 x next:Nat} {L:Value} {F:List Nat} {sl:List PSlot} (h:WinIs w b2 x L F next sl) (hb:b1≤b2):WinIs w b1 x L F next sl:=
 ⟨h.blk,ZC h.row hb,fun q hq=>ZC (h.dat q hq) hb,h.foot,Nat.le_trans hb h.base,h.pos,h.few,h.zero,h.nb⟩
section
variable (w:World) (base s d:Nat) (Fs:List Nat) (B:Nat) (S:PS) (h:StoreAt w base s d Fs B S) (hs:S.st.seq≤1000000)
include h hs
theorem JBH (m:Nat) (h1:1≤m) (h2:m≤16) (hmode:S.st.mode=1) (hview:1≤S.st.view∧S.st.view≤2147483647) (hbase:base≤w.heap.size) :
 Calls Tryz.prog 137 #[.pointer (some ⟨s,0,none⟩),.int .i64 (m:Nat)] w fun e w'=>∃ r x Fx,e=.returned (.pointer (some ⟨r,0,none⟩))∧ReplicaIs w' base r s d x Fs Fx B ⟨S,S.st.seq+1,JD m⟩∧Keep [] w w'∧(∀ y∈JO r Fs Fx,y∈Fs∨w.heap.size≤y):=by
 have hS:=JI w base s d Fs B S h
 have hres:∀ w2 x F r,Keep [] w w2→WinAt w2 w.heap.size x F (S.st.seq+1) (JD m)→r=w2.heap.size→ReplicaIs (w2.alloc (.cells #[.pointer (some ⟨s,0,none⟩),.pointer (some ⟨x,0,none⟩)] 224)) base r s d x Fs F B ⟨S,S.st.seq+1,JD m⟩∧(∀ y∈JO r Fs F,y∈Fs∨w.heap.size≤y):=by
  intro w2 x F r hk hw hr;subst hr;have hka:=(Keep.refl [] w2).alloc (.cells #[.pointer (some ⟨s,0,none⟩),.pointer (some ⟨x,0,none⟩)] 224);obtain⟨L,hL⟩:=hw;have hge:=hL.ge;have hlt:=hL.lt;refine⟨⟨Blk.new _ _ _,h.keep0 (hk.trans0 hka),⟨L,(hL.down hbase).keep0 hka⟩,fun y hy hm=>?_,fun hm=>?_,fun hm=>?_,?_,hmode,hview⟩,?_⟩
  · have:=h.lt y hy;have:=hge y hm;omega
  · have:=h.lt _ hm;have:=hk.size;omega
  · have:=hlt _ hm;omega
  · have:=hk.size;omega
  · intro y hy
    simp only[JO,List.mem_cons,List.mem_append] at hy;rcases hy with hy | hy | hy
    · exact .inr (by have:=hk.size;omega)
    · exact .inl hy
    · exact .inr (hge y hy)
 generalize hst:S.st=st at *;obtain⟨mode,view,epoch,seq,done,mount,gen⟩:=st;simp only at hS hs hres hmode ⊢;have hW:=fun W=>ZAh m (seq+1) h1 h2 (by omega) W;rw[Int.natCast_add] at hW;have hfd:=fun(a0 a1 a2 a3 a4 a5 a6 a7 a8 a9:Value) W=>ZE (P:=Tryz.prog) Tryz.underlying72 3 rfl Tryz.isAgg3 #[a0,a1,a2,a3,a4,a5,a6,a7,a8,a9] rfl W
 go_enter Tryz.func137,Tryz.ntmps137
 go_wp2_with (first
  | (go_at_call 85;refine hS.mono ?_;clear hS;rintro e w1 ⟨rfl,hk1⟩)
  | (go_at_call 223;refine(hW _).mono ?_;clear hW;rintro e w2 ⟨x,rfl,F,hF,hk2⟩))
 go_ret;have hkk:=hk1.trans0 hk2;obtain⟨L,hL⟩:=hF;obtain⟨q1,q2⟩:=hres w2 x F _ hkk ⟨L,hL.down hk1.size⟩ rfl;exact⟨_,x,F,rfl,q1,hkk.alloc _,q2⟩
end
section
variable (w:World) (base r s d x:Nat) (Fs Fx:List Nat) (B:Nat) (R:RS) (h:ReplicaIs w base r s d x Fs Fx B R)
include h
end
end
section
open Go.RowKit Go.Shelf
def AckRow (w w':World) (st:PSt) (A:Option Addr) (c:Nat):Prop:=w'.ownsRow w.heap.size 5 1 (.slice A 25 c) 25 (bys (KF 8 st.view st.seq 0 0 st.epoch st.done []))
def VBS (k ep:Nat):Nat:=if k=3 then ep+1 else ep
theorem YBJ {st:PSt} {k b c e:Nat} {xs:List UInt8}:(VAJ st ⟨k,b,c,e,xs⟩).view=st.view∧(VAJ st ⟨k,b,c,e,xs⟩).mode=st.mode∧(VAJ st ⟨k,b,c,e,xs⟩).seq=st.seq+1∧(VAJ st ⟨k,b,c,e,xs⟩).epoch=VBS k st.epoch∧(k=3→(VAJ st ⟨k,b,c,e,xs⟩).done=st.seq+1)∧(k≠3→(VAJ st ⟨k,b,c,e,xs⟩).done=st.done):=by
 unfold VAJ VBS
 by_cases h:k=3
 · subst h
   simp
 · have h':¬ ((k:Nat):Int)=3:=by omega
   simp[h,h']
@[simp] theorem length_emptyW (m:Nat):(JD m).length=m:=by simp[JD]
theorem Qh (m:Nat):KE (JD m)=0:=by
 unfold KE JD;rw[List.countP_replicate];simp[PSlot.none_]
theorem Kv (m i:Nat):((JD m).getD i PSlot.none_).is=false:=by
 unfold JD;simp only[List.getD_eq_getElem?_getD,List.getElem?_replicate]
 split <;> rfl
theorem VAU (m B:Nat):∀ q∈JD m,q.is=true→Xe B q.o:=by
 intro q hq hi;rw[List.eq_of_mem_replicate hq] at hi;cases hi
theorem VAK {m i:Nat} (hi:i<m) (q:PSlot) (hq:q.is=true):KE ((JD m).set i q)=1:=by
 rw[Yp (by simpa using hi) (Kv m i) q hq,Qh]
def Off (N:List Nat) (w:World) (F:List Nat):Prop:=∀ b∈N,b∉F∧b<w.heap.size
namespace Off
variable {N:List Nat} {w w':World} {F F':List Nat}
theorem nil:Off [] w F:=fun _ h=>by cases h
theorem keep0 (h:Off N w F) (hk:Keep [] w w'):Off N w' F:=fun b hb=>⟨(h b hb).1,Nat.lt_of_lt_of_le (h b hb).2 hk.size⟩
theorem turn (h:Off N w F) (hk:Keep F w w') (hg:Grow w F F'):Off N w' F':=fun b hb=>⟨fun hm=>(hg b hm).elim (h b hb).1 (by have:=(h b hb).2;omega),Nat.lt_of_lt_of_le (h b hb).2 hk.size⟩
theorem add (h:Off N w F) (hk:Keep [] w w') {b:Nat} (h1:w.heap.size≤b) (h2:b<w'.heap.size) (hF:∀ x∈F,x<w.heap.size):Off (b :: N) w' F:=fun x hx=>by
 rcases List.mem_cons.1 hx with rfl | hx
 · exact⟨fun hm=>by have:=hF _ hm;omega,h2⟩
 · exact h.keep0 hk x hx
end Off
theorem AckRow.rd {w w':World} {st:PSt} {A:Option Addr} {c v s e d:Nat} (h:AckRow w w' st A c) (h1:st.view=v) (h2:st.seq=s) (h3:st.epoch=e) (h4:st.done=d):Rd w' A 25 (bys (KF 8 v s 0 0 e d [])):=by
 subst h1 h2 h3 h4;exact Rd.of_own h
end
section
open Go.RowKit Go.Shelf
section
variable (w:World) (base r s d x:Nat) (Fs Fx:List Nat) (B:Nat) (R:RS) (h:ReplicaIs w base r s d x Fs Fx B R)
include h
end
end
section
open Go.RowKit Go.Shelf
def Unready (r z:Nat) (w:World):Prop:=∀ W,Keep [] w W→Calls Tryz.prog 141 #[.pointer (some ⟨r,0,none⟩)] W fun e w'=>e=.returned (.int .i64 z)∧Keep [] W w'
theorem Unready.keep0 {r z:Nat} {w w':World} (h:Unready r z w) (hk:Keep [] w w'):Unready r z w':=fun W hW=>h W (hk.trans0 hW)
theorem JAN (w:World) (base r s d x:Nat) (Fs:List Nat) (B:Nat) (S:PS) (hb:Blk w r 224 #[.pointer (some ⟨s,0,none⟩),.pointer (some ⟨x,0,none⟩)]) (h:StoreAt w base s d Fs B S) (hm:S.st.mode=2):Unready r 7 w:=by
 intro W hW;replace h:=h.keep0 hW;replace hb:=hb.keep0 hW;have hS:=JI W base s d Fs B S h
 have hD:Calls Tryz.prog 60 #[.pointer (some ⟨s,0,none⟩)] W fun e w'=>e=.returned (.pointer (some ⟨d,0,none⟩))∧W=w':=by
  obtain⟨g,t,p,m,Fd,Ft,Fw,Fm,L0,L1,h2,hf⟩:=h;exact DiskS_is W base s d g t p m Fd Ft Fw Fm L0 L1 B S h2
 have hO:Calls Tryz.prog 61 #[.pointer (some ⟨d,0,none⟩)] W fun e w'=>e=.returned (.bool false)∧W=w':=by
  obtain⟨g,t,p,m,Fd,Ft,Fw,Fm,L0,L1,h2,hf⟩:=h;have:=Kx W base d Fd S.D h2.log.disk
  rwa [h2.log.off] at this
 have c0:W.cell? ⟨r,0,none⟩=some (.pointer (some ⟨s,0,none⟩)):=by simpa using hb.cell 0
 rw[hm] at hS;clear hm;have hfd:=fun(a b c e f g h' i j:Value) W=>ZE (P:=Tryz.prog) Tryz.underlying72 0 rfl Tryz.isAgg3 #[.int .i64 2,a,b,c,e,f,g,h',i,j] rfl W
 go_enter Tryz.func141,Tryz.ntmps141
 go_wp2_with (first
  | (go_at_call 60;refine hD.mono ?_;clear hD;rintro e w' ⟨rfl,rfl⟩)
  | (go_at_call 61;refine hO.mono ?_;clear hO;rintro e w' ⟨rfl,rfl⟩)
  | (go_at_call 85;refine hS.mono ?_;clear hS;rintro e w1 ⟨rfl,hk1⟩))
 go_ret;exact⟨rfl,hk1⟩
theorem VAu (w:World) (r z:Nat) (h:Unready r z w) (hz:1≤z) (k v b c e dn fs:Nat) (xs:List UInt8) (A:Option Addr) (n cp:Nat) (hm:FrMay k v fs b c e dn xs) (ha:Rd w A n (bys (KF k v fs b c e dn xs))) :
 Calls Tryz.prog 83 #[.pointer (some ⟨r,0,none⟩),.slice A n cp] w fun e w'=>e=.returned (.tuple #[.slice none 0 0,.int .i64 z])∧Keep [] w w':=by
 have hD:=Yt k v fs b c e dn xs hm A n cp w ha;have hz1:¬ ((z:Nat):Int)=0:=by omega
 clear ha hm
 go_enter Tryz.func83,Tryz.ntmps83
 go_wp2_with (first
  | (go_at_call 140
     refine hD.mono ?_;clear hD;rintro e1 w1 ⟨UA,uc,rfl,hu,hk1⟩
     have hkA:Keep [] w (w1.alloc (.cells #[.int .i64 k,.int .i64 v,.int .i64 fs,.int .i64 b,.int .i64 c,.int .i64 e,.int .i64 dn,.slice UA xs.length uc] 152)):=hk1.alloc _)
  | (go_at_call 141
     refine(h _ hkA).mono ?_;rintro e2 w2 ⟨rfl,hk2⟩;replace hkA:=hkA.trans0 hk2))
 go_ret2;exact⟨rfl,hkA⟩
theorem XAh (w:World) (r s x:Nat) (hb:Blk w r 224 #[.pointer (some ⟨s,0,none⟩),.pointer (some ⟨x,0,none⟩)]):Calls Tryz.prog 139 #[.pointer (some ⟨r,0,none⟩)] w fun e w'=>e=.returned (.pointer (some ⟨s,0,none⟩))∧w=w':=by
 have c0:w.cell? ⟨r,0,none⟩=some (.pointer (some ⟨s,0,none⟩)):=by simpa using hb.cell 0
 go_enter Tryz.func139,Tryz.ntmps139
 go_wp2
 go_ret;exact⟨rfl,rfl⟩
end
end Go.Proofs.YtkonbpfbjiepfaaGreat
