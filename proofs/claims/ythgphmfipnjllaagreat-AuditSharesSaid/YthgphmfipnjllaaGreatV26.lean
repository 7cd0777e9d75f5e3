/- Lemmas of the proof, with their conditions. -/
import Derived.Test.YthgphmfipnjllaaGreatV25
namespace Go.Proofs.YthgphmfipnjllaaGreat
set_option linter.unusedSimpArgs false
set_option linter.unusedVariables false
set_option maxHeartbeats 4000000
set_option maxRecDepth 20000
section
open Go.RowKit
def VU (W:PW):Nat:=if W.items=[] then W.pos.off else KB W.pos.off W.blocks.length
def VL (off n m:Nat):Prop:=n≤6∧KB off m<24
instance (off n m:Nat):Decidable (VL off n m):=by unfold VL;infer_instance
def Roomed (B:Nat) (D:PDisk) (us:List (Nat×Nat)) (lv:List Nat) (W:PW) (m:Nat) (D':PDisk) (us':List (Nat×Nat)) (lv':List Nat) (W':PW):Prop:=
 (VL W.pos.off (W.items.length+1) (W.blocks.length+m)∧D'=D∧us'=us∧lv'=lv∧W'=W) ∨
 (¬ VL W.pos.off (W.items.length+1) (W.blocks.length+m)∧VL (VU W) 1 m∧Emitted B D us W D' us' W'∧lv'=lv) ∨
 (¬ VL W.pos.off (W.items.length+1) (W.blocks.length+m)∧¬ VL (VU W) 1 m∧lv'=lv.set (VB us) 0 ∧
   ∃ D1 us1 W1,Emitted B D (VE us (VB us) 1) W D1 us1 W1∧Turned B D1 us1 W1 (VB us) D' us' W')
def ZV (i:PItem):Nat:=if i.loaded then 1 else 0
def Added (B:Nat) (D:PDisk) (us:List (Nat×Nat)) (lv:List Nat) (W:PW) (i:PItem) (bs:List UInt8) (D':PDisk) (us':List (Nat×Nat)) (lv':List Nat) (W':PW) (a:Nat):Prop:=
 ∃ W1,Roomed B D us lv W (ZV i) D' us' lv' W1∧W'=⟨W1.pos,W1.items++[i],if i.loaded then W1.blocks++[bs] else W1.blocks⟩ ∧
   a=if i.loaded then YB B W1.pos.seg+KB W1.pos.off 0+W1.blocks.length else 0
theorem Yd (us:List (Nat×Nat)) (s:Nat) (u:Nat×Nat) (hs:s<us.length):QE (us.set s u)+(if us[s].1=0 then 1 else 0)=QE us+(if u.1=0 then 1 else 0):=by
 induction us generalizing s with
 | nil=>simp at hs
 | cons v us ih=>
   cases s with
   | zero=>
     simp only[List.set_cons_zero,QE,List.countP_cons,List.getElem_cons_zero,beq_iff_eq]
     omega
   | succ s=>
     have:=ih s (by simpa using hs)
     simp only[List.set_cons_succ,QE,List.countP_cons,List.getElem_cons_succ] at this ⊢
     omega
theorem KV (us:List (Nat×Nat)) (s x:Nat) (hs:s<us.length):QE (QF us s x)=QE us:=by
 have:=Yd us s ((us.getD s (0,0)).1,x) hs
 rw[QJ hs] at this
 unfold QF
 rw[QJ hs]
 simp only at this
 omega
theorem YM (us:List (Nat×Nat)) (s x:Nat) (hs:s<us.length):QE (VE us s x)+(if (us.getD s (0,0)).1=0 then 1 else 0)=QE us+(if x=0 then 1 else 0):=by
 have:=Yd us s (x,(us.getD s (0,0)).2) hs
 unfold VE
 rw[QJ hs] at this ⊢
 simpa using this
theorem ZO (us:List (Nat×Nat)) (h:0<QE us):VB us<us.length∧(us.getD (VB us) (0,0)).1=0:=by
 have h1:VB us<us.length:=by
  unfold VB
  rw[List.findIdx_lt_length]
  obtain⟨u,hu,hp⟩:=List.countP_pos_iff.1 h
  exact⟨u,hu,hp⟩
 refine⟨h1,?_⟩
 rw[QJ h1]
 have:=List.findIdx_getElem (p:=fun u:Nat×Nat=>u.1 == 0) (xs:=us) (w:=h1)
 exact beq_iff_eq.1 this
@[simp] theorem length_setStamp (us:List (Nat×Nat)) (s x:Nat):(QF us s x).length=us.length:=by simp[QF]
@[simp] theorem length_setState (us:List (Nat×Nat)) (s x:Nat):(VE us s x).length=us.length:=by simp[VE]
theorem QG (us:List (Nat×Nat)) (s x k:Nat):((QF us s x).getD k (0,0)).1=(us.getD k (0,0)).1:=by
 unfold QF
 rw[List.getD_eq_getElem?_getD,List.getElem?_set]
 split
 · rename_i e
   subst e
   split
   · rfl
   · rename_i h
     rw[List.getD_eq_getElem?_getD,List.getElem?_eq_none (by omega)]
 · rw[← List.getD_eq_getElem?_getD]
theorem ZF (us:List (Nat×Nat)) (s x k:Nat) (hs:s<us.length):((VE us s x).getD k (0,0)).1=if k=s then x else (us.getD k (0,0)).1:=by
 unfold VE
 rw[List.getD_eq_getElem?_getD,List.getElem?_set]
 split
 · rename_i e
   subst e
   simp[hs]
 · rename_i e
   rw[if_neg (fun h=>e h.symm),← List.getD_eq_getElem?_getD]
theorem Emitted.facts {B:Nat} {D D':PDisk} {us us':List (Nat×Nat)} {W W':PW} (h:Emitted B D us W D' us' W') (ho:W.Ok) :
 W'.items=[]∧W'.blocks=[]∧W'.pos.seg=W.pos.seg∧W'.pos.mount=W.pos.mount∧W.pos.lsn≤W'.pos.lsn∧W'.pos.lsn≤W.pos.lsn+1∧(W.items=[]→W'.pos.off=W.pos.off)∧(W.items≠[]→W'.pos.off=VU W)∧D'.acts≤D.acts+8∧(us'=us∨us'=QF us W.pos.seg W.pos.lsn)∧(W'.pos.prev=W.pos.prev∨W'.pos.prev≤4294967295) ∧
 D'.n=D.n∧D'.off=D.off∧D'.fuse=D.fuse∧D'.faults=D.faults:=by
 rcases h with⟨h0,rfl,rfl,rfl⟩ | ⟨h0,D1,W1,rs,sum,hb,hr,hs,rfl,rfl,rfl⟩
 · have hm:=ho.many
   rw[h0] at hm
   exact⟨h0,List.eq_nil_of_length_eq_zero hm,rfl,rfl,Nat.le_refl _,Nat.le_succ _,fun _=>rfl,fun h=>absurd h0 h,by omega,.inl rfl,.inl rfl,rfl,rfl,rfl,rfl⟩
 · obtain⟨e1,e2,e3,e4,e5,e6,e7,e8⟩:=hb.same
   have hl:=KJ D1 (YB B W.pos.seg+W1.pos.off) (rs++W.blocks.flatten) (1+W.blocks.length)
   have hm:W.blocks.length≤6:=by rw[ho.many];exact Nat.le_trans (VH _) ho.few
   have hD:D1.n=D.n∧D1.off=D.off∧D1.fuse=D.fuse∧D1.faults=D.faults:=by
    rcases hb with⟨_,rfl,_⟩ | ⟨_,x,_,rfl,_⟩ <;> exact⟨rfl,rfl,rfl,rfl⟩
   refine⟨rfl,rfl,rfl,rfl,by simp,by simp,fun h=>absurd h h0,fun _=>?_,?_,.inr rfl,.inr hs,hl.1.trans hD.1,hl.2.1.trans hD.2.1,hl.2.2.1.trans hD.2.2.1,hl.2.2.2.2.1.trans hD.2.2.2⟩
   · unfold VU;rw[if_neg h0];unfold KB;simp[e4]
   · rw[hl.2.2.2.1];omega
structure Cap (D:PDisk) (us:List (Nat×Nat)) (W:PW) (k j:Nat):Prop where
 ok:W.Ok
 ul:us.length=8
 seg:W.pos.seg<8
 off:W.pos.off≤23
 opn:(us.getD W.pos.seg (0,0)).1=1
 cs:∃ c s,11*s+c≤k∧max (VU W) 1≤1+2*c∧7≤QE us+s
 acts:D.acts≤1000+40*j
 lsn:W.pos.lsn≤1+4*j
theorem Cap.free {D:PDisk} {us:List (Nat×Nat)} {W:PW} {k j:Nat} (h:Cap D us W k j) (hk:k≤50) {m:Nat} (hm:m≤1) (hf:¬ VL (VU W) 1 m):2<QE us:=by
 obtain⟨c,s,h1,h2,h3⟩:=h.cs
 have:22≤VU W:=by
  unfold VL KB at hf
  omega
 omega
theorem Cap.mono {D:PDisk} {us:List (Nat×Nat)} {W:PW} {k k' j j':Nat} (h:Cap D us W k j) (hk:k≤k') (hj:j≤j'):Cap D us W k' j':=by
 obtain⟨c,s,h1,h2,h3⟩:=h.cs
 exact⟨h.ok,h.ul,h.seg,h.off,h.opn,⟨c,s,by omega,h2,h3⟩,by have:=h.acts;omega,by have:=h.lsn;omega⟩
theorem JAd (p:PPos):PW.Ok ⟨p,[],[]⟩:=⟨by simp,by simp,by simp,rfl,fun h=>absurd rfl h⟩
theorem PW.Ok.snoc {W:PW} (h:W.Ok) {i:PItem} (hi:i.May) {bs:List UInt8} (hb:i.loaded=true→bs.length=64) (hf:VL W.pos.off (W.items.length+1) (W.blocks.length+ZV i)) :
 PW.Ok ⟨W.pos,W.items++[i],if i.loaded then W.blocks++[bs] else W.blocks⟩:=by
 refine⟨by have:=hf.1;simp;omega,?_,?_,?_,fun _=>?_⟩
 · intro j hj
   rcases List.mem_append.1 hj with hj | hj
   · exact h.may j hj
   · simp at hj;subst hj;exact hi
 · intro b hbm
   simp only at hbm
   split at hbm
   · rename_i hl
     rcases List.mem_append.1 hbm with hj | hj
     · exact h.full b hj
     · simp at hj;subst hj;exact hb hl
   · exact h.full b hbm
 · simp only
   rw[JX,← h.many]
   split <;> simp
 · have:=hf.2
   unfold ZV at this
   simp only
   split <;> rename_i hl <;> simp[hl] at this ⊢ <;> omega
theorem Jj (p:PPos) (is:List PItem) (i:PItem) (bl:List (List UInt8)):VU ⟨p,is++[i],bl⟩=KB p.off bl.length:=by
 unfold VU
 rw[if_neg (by simp)]
theorem Cap.emitted {B:Nat} {D D':PDisk} {us us':List (Nat×Nat)} {W W':PW} {k j:Nat} (h:Cap D us W k j) (hE:Emitted B D us W D' us' W') :
 W'.Ok∧us'.length=8∧W'.pos.seg=W.pos.seg∧W'.pos.off≤23∧QE us'=QE us∧(us'.getD W'.pos.seg (0,0)).1=1∧max W'.pos.off 1=max (VU W) 1∧W'.items=[]∧W'.blocks=[]∧D'.acts≤D.acts+8∧W'.pos.lsn≤W.pos.lsn+1:=by
 obtain⟨f1,f2,f3,f4,f5,f6,f7,f8,f9,f10,f11,f12⟩:=hE.facts h.ok
 have hof:W'.pos.off=VU W:=by
  by_cases h0:W.items=[]
  · rw[f7 h0];unfold VU;rw[if_pos h0]
  · exact f8 h0
 have hol:VU W≤23:=by
  unfold VU
  split
  · exact h.off
  · rename_i h0;exact h.ok.fit h0
 have hul:=h.ul
 have hsg:=h.seg
 have hW':W'=⟨W'.pos,[],[]⟩:=by
  obtain⟨p,i,b⟩:=W'
  simp only at f1 f2
  rw[f1,f2]
 refine⟨by rw[hW'];exact JAd _,?_,f3,by omega,?_,?_,by rw[hof],f1,f2,f9,f6⟩
 · rcases f10 with rfl | rfl <;> simp[hul]
 · rcases f10 with rfl | rfl
   · rfl
   · exact KV _ _ _ (by omega)
 · rw[f3]
   rcases f10 with rfl | rfl
   · exact h.opn
   · rw[QG];exact h.opn
theorem Cap.mark {B:Nat} {D D':PDisk} {us us':List (Nat×Nat)} {W W':PW} {k j:Nat} (h:Cap D us W k j) (hE:Emitted B D us W D' us' W') (n:Nat) (hn:n≤20) (D2:PDisk) (hD2:D2.acts≤D'.acts+n):Cap D2 us' W' k (j+1):=by
 obtain⟨e1,e2,e3,e4,e5,e6,e7,e8,e9,e10,e11⟩:=h.emitted hE
 obtain⟨c,s,h1,h2,h3⟩:=h.cs
 have hsg:=h.seg
 refine⟨e1,e2,by omega,e4,e6,⟨c,s,by omega,?_,by omega⟩,by have:=h.acts;omega,by have:=h.lsn;omega⟩
 have:VU W'=W'.pos.off:=by unfold VU;rw[if_pos e8]
 rw[this];omega
theorem Cap.added {B:Nat} {D D':PDisk} {us us':List (Nat×Nat)} {lv lv':List Nat} {W W':PW} {k j a:Nat} {i:PItem} {bs:List UInt8} (h:Cap D us W k j) (hk:k≤50) (hi:i.May) (hb:i.loaded=true→bs.length=64)
 (hA:Added B D us lv W i bs D' us' lv' W' a):Cap D' us' W' (k+1) (j+1):=by
 obtain⟨W1,hR,rfl,ha⟩:=hA
 have hm:ZV i≤1:=by unfold ZV;split <;> omega
 have hbl:∀ b:List (List UInt8),(if i.loaded then b++[bs] else b).length=b.length+ZV i:=by
  intro b;unfold ZV;split <;> simp
 obtain⟨c,s,h1,h2,h3⟩:=h.cs
 have hul:=h.ul
 have hsg:=h.seg
 rcases hR with⟨hf,rfl,rfl,rfl,rfl⟩ | ⟨hnf,hf,hE,rfl⟩ | ⟨hnf,hf,rfl,D1,us1,W2,hE,hT⟩
 · refine⟨h.ok.snoc hi hb hf,hul,hsg,h.off,h.opn,⟨c+1,s,by omega,?_,h3⟩,by have:=h.acts;omega,by have:=h.lsn;simp only;omega⟩
   rw[Jj,hbl]
   by_cases h0:W1.items=[]
   · have hm0:=h.ok.many
     rw[h0] at hm0
     have hm1:W1.blocks.length=0:=hm0
     rw[hm1]
     unfold VU at h2
     rw[if_pos h0] at h2
     unfold KB
     omega
   · unfold VU at h2
     rw[if_neg h0] at h2
     unfold KB at h2 ⊢
     omega
 · obtain⟨e1,e2,e3,e4,e5,e6,e7,e8,e9,e10,e11⟩:=h.emitted hE
   have hfit:VL W1.pos.off (W1.items.length+1) (W1.blocks.length+ZV i):=by
    rw[e8,e9]
    simp only[List.length_nil,Nat.zero_add]
    refine⟨by omega,?_⟩
    have:=hf.2
    unfold KB at this ⊢
    omega
   refine⟨e1.snoc hi hb hfit,e2,by simp only;omega,by simpa using e4,by simpa using e6,⟨c+1,s,by omega,?_,by omega⟩,by have:=h.acts;omega,by have:=h.lsn;simp only;omega⟩
   rw[Jj,hbl,e9]
   unfold KB
   simp only[List.length_nil]
   omega
 · have hfree:=h.free hk hm hf
   obtain⟨g1,g2⟩:=ZO us (by omega)
   have hne:W.pos.seg≠VB us:=by
    intro e
    have:=h.opn
    rw[e,g2] at this
    omega
   have hC:Cap D (VE us (VB us) 1) W (k+11) j:=by
    refine⟨h.ok,by simpa using hul,hsg,h.off,?_,⟨c,s+1,by omega,h2,?_⟩,by have:=h.acts;omega,by have:=h.lsn;omega⟩
    · rw[ZF _ _ _ _ g1,if_neg hne];exact h.opn
    · have:=YM us (VB us) 1 g1
      rw[g2] at this
      simp at this
      omega
   obtain⟨e1,e2,e3,e4,e5,e6,e7,e8,e9,e10,e11⟩:=hC.emitted hE
   obtain⟨rs,hd,sum,t1,t2,t3,rfl,rfl,rfl⟩:=hT
   have hls:=KJ D1 (YB B W2.pos.seg+W2.pos.off) rs 1
   have hact:(YW D1 (YB B W2.pos.seg+W2.pos.off) rs 1).acts=D1.acts+1:=hls.2.2.2.1
   have h22:22≤VU W:=by unfold VL KB at hf;omega
   have hfit:VL 1 (W2.items.length+1) (W2.blocks.length+ZV i):=by
    rw[e8,e9]
    unfold VL KB
    simp
    omega
   have hW2:PW.Ok { W2 with pos:=⟨VB us,1,W2.pos.lsn+1,sum,W2.pos.mount⟩ }:=by
    have:({ W2 with pos:=⟨VB us,1,W2.pos.lsn+1,sum,W2.pos.mount⟩ }:PW)=⟨⟨VB us,1,W2.pos.lsn+1,sum,W2.pos.mount⟩,[],[]⟩:=by
     rw[e8,e9]
    rw[this]
    exact JAd _
   have hs1:W2.pos.seg<us1.length:=by rw[e2,e3];exact hsg
   refine⟨hW2.snoc hi hb hfit,by simpa using e2,by simp only;omega,by simp,?_,⟨1,s+1,by omega,?_,?_⟩,?_,?_⟩
   · simp only
     rw[ZF _ _ _ _ (by simpa using hs1),e3,if_neg (fun e=>hne e.symm),QG]
     rcases hE.facts h.ok with⟨_,_,_,_,_,_,_,_,_,f10,_⟩
     rcases f10 with rfl | rfl
     · rw[ZF _ _ _ _ g1,if_pos rfl]
     · rw[QG,ZF _ _ _ _ g1,if_pos rfl]
   · rw[Jj,hbl,e9]
     unfold KB
     simp only[List.length_nil]
     omega
   · have q:=YM (QF us1 W2.pos.seg W2.pos.lsn) W2.pos.seg 2 (by simpa using hs1)
     rw[QG,e6,KV _ _ _ hs1,e5] at q
     have:=YM us (VB us) 1 g1
     rw[g2] at this
     simp at this q
     omega
   · have:=h.acts
     show (YW D1 (YB B W2.pos.seg+W2.pos.off) rs 1).acts+1≤_
     omega
   · have:=h.lsn
     simp only
     omega
end
section
open Go.RowKit Go.Shelf
theorem LogIs.ul {w:World} {base d g t p:Nat} {Fd Ft Fw:List Nat} {B:Nat} {D:PDisk} {us:List (Nat×Nat)} {lv:List Nat} {W:PW} (h:LogIs w base d g t p Fd Ft Fw B D us lv W):us.length=8:=by obtain⟨L,V,ht⟩:=h.tab;exact ht.ulen
def KAj (us:List (Nat×Nat)) (W:PW) (m:Nat) (spare:Bool):Prop:=
 ¬ VL W.pos.off (W.items.length+1) (W.blocks.length+m)→¬ VL (VU W) 1 m→VB us<8∧(us.getD (VB us) (0,0)).1=0∧(spare=false→2<QE us)
theorem KAY (w:World) (base d g t p:Nat) (Fd Ft Fw:List Nat) (B:Nat) (D:PDisk) (us:List (Nat×Nat)) (lv:List Nat) (W:PW) (h:LogIs w base d g t p Fd Ft Fw B D us lv W) (ho:W.Ok) (m:Nat) (hm:m≤1) (spare:Bool)
 (hf:VL W.pos.off (W.items.length+1) (W.blocks.length+m)) :
 Calls Tryz.prog 138 #[.pointer (some ⟨p,0,none⟩),.int .i64 (m:Nat),.bool spare] w fun e w'=>e=.returned (.int .i64 0)∧Keep [] w w':=by
 obtain⟨I,Bv,ls,hw⟩:=h.wri
 obtain⟨IA,ic,rfl,_⟩:=QB hw.its
 obtain⟨BA,bc,rfl,_⟩:=QB hw.bls
 have hblk:=hw.blk
 have hll:=hw.len
 have hm6:W.blocks.length≤6:=by rw[ho.many];exact Nat.le_trans (VH _) ho.few
 have hn6:=ho.few
 have hoff:=h.pos.2.1
 obtain⟨n,hn⟩:∃ n,n=W.items.length:=⟨_,rfl⟩
 obtain⟨mb,hmb⟩:∃ n,n=W.blocks.length:=⟨_,rfl⟩
 obtain⟨off,hof⟩:∃ n,n=W.pos.off:=⟨_,rfl⟩
 rw[← hn] at hblk hn6 hf
 rw[← hmb] at hll hm6 hf
 rw[hll,← hof] at hblk
 rw[← hof] at hoff hf
 have hF:=Xd w.drew p g B _ hblk.drew (by simp) (h.geom.keep0 (Keep.refl _ _).drew) off (n+1) (mb+m) (by omega) (by omega) (by omega)
 rw[decide_eq_true (show n+1≤6∧KB off (mb+m)<24 from hf),show ((n+1:Nat):Int)=(n:Int)+1 by omega,show ((mb+m:Nat):Int)=(mb:Int)+(m:Int) by omega] at hF
 obtain⟨c0,c1,c2,c3,c4,c5,c6,c7,c8,c9⟩:=JD hblk.drew
 clear hof hn hmb hll hf
 go_enter Tryz.func138,Tryz.ntmps138
 go_wp2_with fail
 refine ZT (fun w'=>w'.cell? ⟨p,4,none⟩=some (.int .i64 off)∧w'.cell? ⟨p,8,none⟩=some (.slice IA n ic)∧w'.cell? ⟨p,9,none⟩=some (.slice BA mb bc)) 19 [[0,1,2,3,4,5,6,7,8,9,10,11,12,13,14,15,16,17,18]] ⟨c4,c8,c9⟩ ?_
 simp only[PI]
 iterate 19 (refine ZH ?_;simp only[Act.put,PU])
 refine JB ?_
 go_wp2_with (refine hF.mono ?_;clear hF;rintro e w2 ⟨rfl,hk2⟩)
 go_ret
 exact⟨rfl,(Keep.refl _ _).drew.trans0 hk2⟩
theorem XAX (w:World) (base d g t p:Nat) (Fd Ft Fw:List Nat) (B:Nat) (D:PDisk) (us:List (Nat×Nat)) (lv:List Nat) (W:PW) (h:LogIs w base d g t p Fd Ft Fw B D us lv W) (ho:W.Ok) (hoo:W.pos.off≤23) (m:Nat) (hm:m≤1) (spare:Bool) (ha:D.acts≤1000000) (hlsn:W.pos.lsn<2147483647)
 (hnf:¬ VL W.pos.off (W.items.length+1) (W.blocks.length+m)) (hf:VL (VU W) 1 m) :
 Calls Tryz.prog 138 #[.pointer (some ⟨p,0,none⟩),.int .i64 (m:Nat),.bool spare] w fun e w'=>e=.returned (.int .i64 0)∧∃ Fd' Fw' D' us' W',LogIs w' base d g t p Fd' Ft Fw' B D' us' lv W'∧Emitted B D us W D' us' W'∧Keep (Fd++(Ft++Fw)) w w'∧Grow w Fd Fd'∧Grow w Fw Fw':=by
 have hE:=fun W1 (hk:Keep [] w W1)=>ZAF W1 base d g t p Fd Ft Fw B D us lv W (h.keep0 hk) ho ha hlsn
 obtain⟨I,Bv,ls,hw⟩:=h.wri
 obtain⟨IA,ic,rfl,_⟩:=QB hw.its
 obtain⟨BA,bc,rfl,_⟩:=QB hw.bls
 have hblk:=hw.blk
 have hll:=hw.len
 have hm6:W.blocks.length≤6:=by rw[ho.many];exact Nat.le_trans (VH _) ho.few
 have hn6:=ho.few
 have hoff:=h.pos.2.1
 have hgm:=h.geom
 have hB0:W.items.length=0→W.items=[]:=List.eq_nil_of_length_eq_zero
 have hB1:W.items=[]→W.items.length=0:=fun e=>by rw[e];rfl
 obtain⟨n,hn⟩:∃ n,n=W.items.length:=⟨_,rfl⟩
 obtain⟨mb,hmb⟩:∃ n,n=W.blocks.length:=⟨_,rfl⟩
 obtain⟨off,hof⟩:∃ n,n=W.pos.off:=⟨_,rfl⟩
 obtain⟨o2,ho2⟩:∃ n,n=VU W:=⟨_,rfl⟩
 have ho2':(n=0∧o2=off)∨(0<n∧o2=KB off mb):=by
  rw[ho2,hn,hof,hmb]
  unfold VU
  by_cases h0:W.items.length=0
  · exact .inl ⟨h0,by rw[if_pos (hB0 h0)]⟩
  · exact .inr ⟨by omega,by rw[if_neg (fun e=>h0 (hB1 e))]⟩
 have hfb:o2≤100:=by rcases ho2' with⟨_,e⟩ | ⟨_,e⟩ <;> rw[e] <;> first | omega | (unfold KB;omega)
 rw[← ho2] at hf
 rw[← hn] at hblk hn6 hnf
 rw[← hmb] at hll hm6 hnf
 rw[hll,← hof] at hblk
 rw[← hof] at hoff hnf
 have hF1:=Xd w.drew p g B _ hblk.drew (by simp) (hgm.keep0 (Keep.refl _ _).drew) off (n+1) (mb+m) (by omega) (by omega) (by omega)
 rw[decide_eq_false (show ¬ (n+1≤6∧KB off (mb+m)<24) from hnf),show ((n+1:Nat):Int)=(n:Int)+1 by omega,show ((mb+m:Nat):Int)=(mb:Int)+(m:Int) by omega] at hF1
 have hF2:=fun W1 (hk:Keep [] w W1)=>Xd W1 p g B _ (hblk.keep0 hk) (by simp) (hgm.keep0 hk) o2 1 m hfb (by omega) (by omega)
 have hbe:=fun W1=>XW off mb (by omega) (by omega) W1
 rw[decide_eq_true (show 1≤6∧KB o2 m<24 from hf)] at hF2
 have hpk:∀ {W1},Keep [] w W1→W1.cell? ⟨p,2,none⟩=some (.pointer (some ⟨t,0,none⟩))∧W1.cell? ⟨p,4,none⟩=some (.int .i64 off)∧W1.cell? ⟨p,8,none⟩=some (.slice IA n ic)∧W1.cell? ⟨p,9,none⟩=some (.slice BA mb bc):=fun hk=>by
  obtain⟨c0,c1,c2,c3,c4,c5,c6,c7,c8,c9⟩:=JD (hblk.keep0 hk)
  exact⟨c2,c4,c8,c9⟩
 obtain⟨c2,c4,c8,c9⟩:=hpk (Keep.refl _ _).drew
 have H1:=ZB hof
 have H2:=ZB hn
 have H3:=ZB hmb
 have H4:=ZB ho2
 clear hof hn hmb hll hnf hB0 hB1 ho2
 rcases ho2' with⟨rfl,rfl⟩ | ⟨hn0,rfl⟩
 · clear hbe
   go_enter Tryz.func138,Tryz.ntmps138
   go_wp2_with fail
   refine ZT (fun w'=>w'.cell? ⟨p,4,none⟩=some (.int .i64 o2)∧w'.cell? ⟨p,8,none⟩=some (.slice IA (0:Nat) ic)∧w'.cell? ⟨p,9,none⟩=some (.slice BA mb bc)) 19 [[0,1,2,3,4,5,6,7,8,9,10,11,12,13,14,15,16,17,18]] ⟨c4,c8,c9⟩ ?_
   simp only[PI]
   iterate 19 (refine ZH ?_;simp only[Act.put,PU])
   refine JB ?_
   clear c2 c4 c8 c9
   go_wp2_with (first
    | (go_at_call 244
       refine hF1.mono ?_
       clear hF1
       rintro e w2 ⟨rfl,hk2⟩
       replace hk2:=(Keep.refl [] w).drew.trans0 hk2
       obtain⟨c2,c4,c8,c9⟩:=hpk hk2)
    | (go_at_call 244
       refine(hF2 _ hk2).mono ?_
       clear hF2
       rintro e w3 ⟨rfl,hk3⟩
       replace hk3:=hk2.trans0 hk3
       obtain⟨c2,c4,c8,c9⟩:=hpk hk3)
    | (go_at_call 99
       refine(hE _ hk3).mono ?_
       clear hE
       rintro e w4 ⟨rfl,Fd',Fw',D',us',W',h4,hE4,hk4,hg4,hgw4⟩))
   go_ret
   exact⟨rfl,Fd',Fw',D',us',W',h4,hE4,hk3.zero.trans hk4 (fun x hx=>.inl hx),hg4.keep hk3,hgw4.keep hk3⟩
 · have hnI:(0:Int)<(n:Nat):=by omega
   go_enter Tryz.func138,Tryz.ntmps138
   go_wp2_with fail
   refine ZT (fun w'=>w'.cell? ⟨p,4,none⟩=some (.int .i64 off)∧w'.cell? ⟨p,8,none⟩=some (.slice IA n ic)∧w'.cell? ⟨p,9,none⟩=some (.slice BA mb bc)) 19 [[0,1,2,3,4,5,6,7,8,9,10,11,12,13,14,15,16,17,18]] ⟨c4,c8,c9⟩ ?_
   simp only[PI]
   iterate 19 (refine ZH ?_;simp only[Act.put,PU])
   refine JB ?_
   clear c2 c4 c8 c9
   go_wp2_with (first
    | (go_at_call 244
       refine hF1.mono ?_
       clear hF1
       rintro e w2 ⟨rfl,hk2⟩
       replace hk2:=(Keep.refl [] w).drew.trans0 hk2
       obtain⟨c2,c4,c8,c9⟩:=hpk hk2)
    | (go_at_call 245
       refine(hbe _).mono ?_
       clear hbe
       rintro e w' ⟨rfl,rfl⟩)
    | (go_at_call 244
       refine(hF2 _ hk2).mono ?_
       clear hF2
       rintro e w3 ⟨rfl,hk3⟩
       replace hk3:=hk2.trans0 hk3
       obtain⟨c2,c4,c8,c9⟩:=hpk hk3)
    | (go_at_call 99
       refine(hE _ hk3).mono ?_
       clear hE
       rintro e w4 ⟨rfl,Fd',Fw',D',us',W',h4,hE4,hk4,hg4,hgw4⟩))
   go_ret
   exact⟨rfl,Fd',Fw',D',us',W',h4,hE4,hk3.zero.trans hk4 (fun x hx=>.inl hx),hg4.keep hk3,hgw4.keep hk3⟩
theorem ZAV (w:World) (base d g t p:Nat) (Fd Ft Fw:List Nat) (B:Nat) (D:PDisk) (us:List (Nat×Nat)) (lv:List Nat) (W:PW) (h:LogIs w base d g t p Fd Ft Fw B D us lv W) (ho:W.Ok) (hoo:W.pos.off≤23) (m:Nat) (hm:m≤1) (spare:Bool) (ha:D.acts≤900000) (hlsn:W.pos.lsn<2147483646)
 (hnf:¬ VL W.pos.off (W.items.length+1) (W.blocks.length+m)) (hf:¬ VL (VU W) 1 m) (hop:(us.getD W.pos.seg (0,0)).1=1) (hs8:VB us<8) (hs0:(us.getD (VB us) (0,0)).1=0) (hsp:spare=false→2<QE us) :
 Calls Tryz.prog 138 #[.pointer (some ⟨p,0,none⟩),.int .i64 (m:Nat),.bool spare] w fun e w'=>e=.returned (.int .i64 0)∧∃ Fd' Fw' D1 us1 W1 D' us' W',LogIs w' base d g t p Fd' Ft Fw' B D' us' (lv.set (VB us) 0) W'∧Emitted B D (VE us (VB us) 1) W D1 us1 W1∧Turned B D1 us1 W1 (VB us) D' us' W'∧Keep (Fd++(Ft++Fw)) w w'∧Grow w Fd Fd'∧Grow w Fw Fw':=by
 have hul:=h.ul
 have hTk:=fun W1 (hk:Keep [] w W1)=>ZAn W1 base t g Ft us lv (h.keep0 hk).tab spare hsp hs8
 have h22:22≤VU W:=by unfold VL KB at hf;omega
 have hE:=fun W1 (h1:LogIs W1 base d g t p Fd Ft Fw B D (VE us (VB us) 1) (lv.set (VB us) 0) W)=>ZAF W1 base d g t p Fd Ft Fw B D _ _ W h1 ho (by omega) (by omega)
 have hfacts:=fun D1 us1 W1 (hE1:Emitted B D (VE us (VB us) 1) W D1 us1 W1)=>hE1.facts ho
 have hTn:∀ W2 Fd1 Fw1 D1 us1 W1,LogIs W2 base d g t p Fd1 Ft Fw1 B D1 us1 (lv.set (VB us) 0) W1→Emitted B D (VE us (VB us) 1) W D1 us1 W1 →
  Calls Tryz.prog 247 #[.pointer (some ⟨p,0,none⟩),.int .i64 (VB us:Nat)] W2 fun e w'=>e=.returned (.int .i64 0)∧∃ Fd' D' us' W',LogIs w' base d g t p Fd' Ft Fw1 B D' us' (lv.set (VB us) 0) W'∧Turned B D1 us1 W1 (VB us) D' us' W'∧Keep (Fd1++(Ft++[p])) W2 w'∧Grow W2 Fd1 Fd':=by
  intro W2 Fd1 Fw1 D1 us1 W1 h1 hE1
  obtain⟨f1,f2,f3,f4,f5,f6,f7,f8,f9,f10,f11⟩:=hfacts _ _ _ hE1
  have hof1:W1.pos.off=VU W:=by
   by_cases h0:W.items=[]
   · rw[f7 h0];unfold VU;rw[if_pos h0]
   · exact f8 h0
  have hol:VU W≤23:=by
   unfold VU
   split
   · exact hoo
   · rename_i h0;exact ho.fit h0
  have hsl:=h.pos.1
  have hne:W.pos.seg≠VB us:=fun e=>by rw[e,hs0] at hop;cases hop
  refine VAw W2 base d g t p Fd1 Ft Fw1 B D1 us1 _ W1 h1 (VB us) (by omega) (by omega) (by omega) (by omega) (by omega) ?_
  rw[f3]
  rcases f10 with rfl | rfl
  · rw[ZF _ _ _ _ (by omega),if_neg hne];exact hop
  · rw[QG,ZF _ _ _ _ (by omega),if_neg hne];exact hop
 have hGe:=h
 clear hfacts h22 hul
 obtain⟨I,Bv,ls,hw⟩:=h.wri
 obtain⟨IA,ic,rfl,_⟩:=QB hw.its
 obtain⟨BA,bc,rfl,_⟩:=QB hw.bls
 have hblk:=hw.blk
 have hll:=hw.len
 have hm6:W.blocks.length≤6:=by rw[ho.many];exact Nat.le_trans (VH _) ho.few
 have hn6:=ho.few
 have hoff:=h.pos.2.1
 have hgm:=h.geom
 have hB0:W.items.length=0→W.items=[]:=List.eq_nil_of_length_eq_zero
 have hB1:W.items=[]→W.items.length=0:=fun e=>by rw[e];rfl
 obtain⟨n,hn⟩:∃ n,n=W.items.length:=⟨_,rfl⟩
 obtain⟨mb,hmb⟩:∃ n,n=W.blocks.length:=⟨_,rfl⟩
 obtain⟨off,hof⟩:∃ n,n=W.pos.off:=⟨_,rfl⟩
 obtain⟨o2,ho2⟩:∃ n,n=VU W:=⟨_,rfl⟩
 have ho2':(n=0∧o2=off)∨(0<n∧o2=KB off mb):=by
  rw[ho2,hn,hof,hmb]
  unfold VU
  by_cases h0:W.items.length=0
  · exact .inl ⟨h0,by rw[if_pos (hB0 h0)]⟩
  · exact .inr ⟨by omega,by rw[if_neg (fun e=>h0 (hB1 e))]⟩
 have hfb:o2≤100:=by rcases ho2' with⟨_,e⟩ | ⟨_,e⟩ <;> rw[e] <;> first | omega | (unfold KB;omega)
 rw[← ho2] at hf
 rw[← hn] at hblk hn6 hnf
 rw[← hmb] at hll hm6 hnf
 rw[hll,← hof] at hblk
 rw[← hof] at hoff hnf
 have hF1:=Xd w.drew p g B _ hblk.drew (by simp) (hgm.keep0 (Keep.refl _ _).drew) off (n+1) (mb+m) (by omega) (by omega) (by omega)
 rw[decide_eq_false (show ¬ (n+1≤6∧KB off (mb+m)<24) from hnf),show ((n+1:Nat):Int)=(n:Int)+1 by omega,show ((mb+m:Nat):Int)=(mb:Int)+(m:Int) by omega] at hF1
 have hF2:=fun W1 (hk:Keep [] w W1)=>Xd W1 p g B _ (hblk.keep0 hk) (by simp) (hgm.keep0 hk) o2 1 m hfb (by omega) (by omega)
 have hbe:=fun W1=>XW off mb (by omega) (by omega) W1
 rw[decide_eq_false (show ¬ (1≤6∧KB o2 m<24) from hf)] at hF2
 have hpk:∀ {W1},Keep [] w W1→W1.cell? ⟨p,2,none⟩=some (.pointer (some ⟨t,0,none⟩))∧W1.cell? ⟨p,4,none⟩=some (.int .i64 off)∧W1.cell? ⟨p,8,none⟩=some (.slice IA n ic)∧W1.cell? ⟨p,9,none⟩=some (.slice BA mb bc):=fun hk=>by
  obtain⟨c0,c1,c2,c3,c4,c5,c6,c7,c8,c9⟩:=JD (hblk.keep0 hk)
  exact⟨c2,c4,c8,c9⟩
 obtain⟨c2,c4,c8,c9⟩:=hpk (Keep.refl _ _).drew
 have H1:=ZB hof
 have H2:=ZB hn
 have H3:=ZB hmb
 have H4:=ZB ho2
 clear hof hn hmb hll hnf hB0 hB1 ho2
 rcases ho2' with⟨rfl,rfl⟩ | ⟨hn0,rfl⟩
 · clear hbe
   go_enter Tryz.func138,Tryz.ntmps138
   go_wp2_with fail
   refine ZT (fun w'=>w'.cell? ⟨p,4,none⟩=some (.int .i64 o2)∧w'.cell? ⟨p,8,none⟩=some (.slice IA (0:Nat) ic)∧w'.cell? ⟨p,9,none⟩=some (.slice BA mb bc)) 19 [[0,1,2,3,4,5,6,7,8,9,10,11,12,13,14,15,16,17,18]] ⟨c4,c8,c9⟩ ?_
   simp only[PI]
   iterate 19 (refine ZH ?_;simp only[Act.put,PU])
   refine JB ?_
   clear c2 c4 c8 c9
   go_wp2_with (first
    | (go_at_call 244
       refine hF1.mono ?_
       clear hF1
       rintro e w2 ⟨rfl,hk2⟩
       replace hk2:=(Keep.refl [] w).drew.trans0 hk2
       obtain⟨c2,c4,c8,c9⟩:=hpk hk2)
    | (go_at_call 244
       refine(hF2 _ hk2).mono ?_
       clear hF2
       rintro e w3 ⟨rfl,hk3⟩
       replace hk3:=hk2.trans0 hk3
       obtain⟨c2,c4,c8,c9⟩:=hpk hk3)
    | (go_at_call 246
       refine(hTk _ hk3).mono ?_
       clear hTk
       rintro e w4 ⟨rfl,ht4,hk4⟩
       have h4:=(hGe.keep0 hk3).setTab ht4 hk4)
    | (go_at_call 99
       refine(hE _ h4).mono ?_
       clear hE
       rintro e w5 ⟨rfl,Fd1,Fw1,D1,us1,W1,h5,hE5,hk5,hg5,hgw5⟩)
    | (go_at_call 247
       refine(hTn _ _ _ _ _ _ h5 hE5).mono ?_
       clear hTn
       rintro e w6 ⟨rfl,Fd2,D2,us2,W2,h6,hT6,hk6,hg6⟩))
   go_ret
   have hK4:Keep (Fd++(Ft++Fw)) w w4:=hk3.zero.trans hk4 (fun x hx=>.inl (by simp[hx]))
   have hK5:=hK4.trans hk5 (fun x hx=>.inl hx)
   refine⟨rfl,Fd2,Fw1,D1,us1,W1,D2,us2,W2,h6,hE5,hT6,hK5.trans hk6 ?_,(hg5.keep hK4).trans hK5.size hg6,hgw5.keep hK4⟩
   intro x hx
   simp only[List.mem_append,List.mem_singleton] at hx ⊢
   rcases hx with hx | hx | rfl
   · rcases hg5 x hx with hx | hx
     · exact .inl (.inl hx)
     · exact .inr (Nat.le_trans hK4.size hx)
   · exact .inl (.inr (.inl hx))
   · exact .inl (.inr (.inr hw.inP))
 · have hnI:(0:Int)<(n:Nat):=by omega
   go_enter Tryz.func138,Tryz.ntmps138
   go_wp2_with fail
   refine ZT (fun w'=>w'.cell? ⟨p,4,none⟩=some (.int .i64 off)∧w'.cell? ⟨p,8,none⟩=some (.slice IA n ic)∧w'.cell? ⟨p,9,none⟩=some (.slice BA mb bc)) 19 [[0,1,2,3,4,5,6,7,8,9,10,11,12,13,14,15,16,17,18]] ⟨c4,c8,c9⟩ ?_
   simp only[PI]
   iterate 19 (refine ZH ?_;simp only[Act.put,PU])
   refine JB ?_
   clear c2 c4 c8 c9
   go_wp2_with (first
    | (go_at_call 244
       refine hF1.mono ?_
       clear hF1
       rintro e w2 ⟨rfl,hk2⟩
       replace hk2:=(Keep.refl [] w).drew.trans0 hk2
       obtain⟨c2,c4,c8,c9⟩:=hpk hk2)
    | (go_at_call 245
       refine(hbe _).mono ?_
       clear hbe
       rintro e w' ⟨rfl,rfl⟩)
    | (go_at_call 244
       refine(hF2 _ hk2).mono ?_
       clear hF2
       rintro e w3 ⟨rfl,hk3⟩
       replace hk3:=hk2.trans0 hk3
       obtain⟨c2,c4,c8,c9⟩:=hpk hk3)
    | (go_at_call 246
       refine(hTk _ hk3).mono ?_
       clear hTk
       rintro e w4 ⟨rfl,ht4,hk4⟩
       have h4:=(hGe.keep0 hk3).setTab ht4 hk4)
    | (go_at_call 99
       refine(hE _ h4).mono ?_
       clear hE
       rintro e w5 ⟨rfl,Fd1,Fw1,D1,us1,W1,h5,hE5,hk5,hg5,hgw5⟩)
    | (go_at_call 247
       refine(hTn _ _ _ _ _ _ h5 hE5).mono ?_
       clear hTn
       rintro e w6 ⟨rfl,Fd2,D2,us2,W2,h6,hT6,hk6,hg6⟩))
   go_ret
   have hK4:Keep (Fd++(Ft++Fw)) w w4:=hk3.zero.trans hk4 (fun x hx=>.inl (by simp[hx]))
   have hK5:=hK4.trans hk5 (fun x hx=>.inl hx)
   refine⟨rfl,Fd2,Fw1,D1,us1,W1,D2,us2,W2,h6,hE5,hT6,hK5.trans hk6 ?_,(hg5.keep hK4).trans hK5.size hg6,hgw5.keep hK4⟩
   intro x hx
   simp only[List.mem_append,List.mem_singleton] at hx ⊢
   rcases hx with hx | hx | rfl
   · rcases hg5 x hx with hx | hx
     · exact .inl (.inl hx)
     · exact .inr (Nat.le_trans hK4.size hx)
   · exact .inl (.inr (.inl hx))
   · exact .inl (.inr (.inr hw.inP))
end
end Go.Proofs.YthgphmfipnjllaaGreat
