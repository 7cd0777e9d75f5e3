/- Lemmas of the proof, with their conditions. -/
import Derived.Test.YtkonbpfbjiepfaaGreatP22
namespace Go.Proofs.YtkonbpfbjiepfaaGreat
set_option linter.unusedSimpArgs false
set_option linter.unusedVariables false
set_option maxHeartbeats 4000000
set_option maxRecDepth 20000
section
open Go.RowKit Go.Shelf
def Turned (B:Nat) (D:PDisk) (us:List (Nat×Nat)) (W:PW) (s:Nat) (D':PDisk) (us':List (Nat×Nat)) (W':PW):Prop:=
 ∃ rs hd sum,rs.length=64∧hd.length=64∧sum≤4294967295∧D'=(Qg D (YH B W.pos.seg+W.pos.off) rs 1).write (YH B s) hd∧us'=QE (VF us W.pos.seg W.pos.lsn) W.pos.seg 2∧W'={ W with pos:=⟨s,1,W.pos.lsn+1,sum,W.pos.mount⟩ }
theorem Ku (us:List (Nat×Nat)) (s x:Nat) (hs:s<us.length):((VF us s x).getD s (0,0)).1=(us.getD s (0,0)).1:=by
 unfold VF;rw[QH (by simpa using hs),List.getElem_set_self]
theorem YBM (w:World) (base d g t p:Nat) (Fd Ft Fw:List Nat) (B:Nat) (D:PDisk) (us:List (Nat×Nat)) (lv:List Nat) (W:PW) (h:LogIs w base d g t p Fd Ft Fw B D us lv W) (s:Nat) (hs:s≤7) (ho:1≤W.pos.off) (ho2:W.pos.off≤23) (ha:D.acts≤1000000) (hlsn:W.pos.lsn<2147483647)
 (hop:(us.getD W.pos.seg (0,0)).1=1) :
 Calls Tryz.prog 204 #[.pointer (some ⟨p,0,none⟩),.int .i64 (s:Nat)] w fun e w'=>e=.returned (.int .i64 0)∧∃ Fd' D' us' W',LogIs w' base d g t p Fd' Ft Fw B D' us' lv W'∧Turned B D us W s D' us' W'∧Keep (Fd++(Ft++[p])) w w'∧Grow w Fd Fd':=by
 obtain⟨I,Bv,ls,hw⟩:=h.wri;obtain⟨c0,c1,c2,c3,c4,c5,c6,c7,c8,c9⟩:=VD hw.blk;have hul:us.length=8:=by obtain⟨L,V,ht⟩:=h.tab;exact ht.ulen
 obtain⟨b1,b2,b3,b4,b5⟩:=h.pos;obtain⟨seg,hseg⟩:∃ seg,seg=W.pos.seg:=⟨_,rfl⟩;rw[← hseg] at c3 b1 hop;have HSEG:=JB hseg;clear hseg;obtain⟨wA,hwA⟩:∃ wA,wA=w.alloc (.cells #[.int .i64 7,.int .i64 0,.int .i64 0,.int .i64 s] 111):=⟨_,rfl⟩;have hkA:Keep [] w wA:=by rw[hwA];exact(Keep.refl _ _).alloc _
 have hrd:Rd wA (some ⟨w.heap.size,0,none⟩) (1*4) ([⟨7,0,0,s⟩].flatMap itc):=by
  have:=Rd.of_blk (n:=4) (Blk.new w 111 #[.int .i64 7,.int .i64 0,.int .i64 0,.int .i64 s]) (by simp);rw[hwA];simpa [itc] using this
 have hWr:=KAR wA base d g t p Fd Ft Fw B D us lv W (h.keep0 hkA) (by omega) w.heap.size 1 1 [⟨7,0,0,s⟩] hrd rfl (fun i hi=>by simp at hi;subst hi;exact .inr (.inr (.inr (.inr ⟨rfl,rfl,rfl,(show s≤31 by omega)⟩)))) (by omega) (by omega)
  none 0 0 [] ⟨by exact⟨rfl,fun h=>absurd h (by omega)⟩,by simp⟩ (by simp) rfl ho (by omega) hlsn
 go_enter Tryz.func204,Tryz.ntmps204
 go_wp2_with (first
  | (rw[← hwA]
     refine hWr.mono ?_;clear hWr;rintro e w2 ⟨rfl,Fd2,rs,sum,hrl,hsum,h2,hk2,hg2⟩;obtain⟨I2,Bv2,ls2,hw2⟩:=h2.wri;have hSl:=YBB w2 base t g Ft _ lv h2.tab W.pos.seg (by have:=h.pos.1;omega) (by rw[Ku _ _ _ (by have:=h.pos.1;omega),← XA HSEG];exact hop);rw[← XA HSEG] at hSl;clear c0 c1 c2 c3 c4 c5 c6 c7 c8 c9
     obtain⟨c0,c1,c2,c3,c4,c5,c6,c7,c8,c9⟩:=VD hw2.blk)
  | (refine hSl.mono ?_
     clear hSl;rintro e w3 ⟨rfl,ht3,hk3⟩;have hw3:=hw2.keep hk3 h2.tw.symm;have f3:=hw3.blk.frozen 3;have f4:=hw3.blk.frozen 4;clear c0 c1 c2 c3 c4 c5 c6 c7 c8 c9;obtain⟨c0,c1,c2,c3,c4,c5,c6,c7,c8,c9⟩:=VD hw3.blk))
 have hkp:Keep [p] w3 ((w3.setCell ⟨p,3,none⟩ (.int .i64 s)).setCell ⟨p,4,none⟩ (.int .i64 0)):=((Keep.refl [p] w3).setCell (p:=⟨p,3,none⟩) (.inl (by simp)) _).setCell (p:=⟨p,4,none⟩) (.inl (by simp)) _;have hbz:=(hw3.blk.set 3 (.int .i64 s)).set 4 (.int .i64 0);have hw4:=hw3.setPos ⟨s,0,W.pos.lsn+1,sum,W.pos.mount⟩ (by simpa using hbz) hkp;have h3:=h2.setTab ht3 hk3;have h4:=h3.setWri ⟨_,_,_,hw4⟩ (hkp.sub (fun x hx=>by simp at hx;subst hx;exact hw3.inP)) (Grow.refl _ _) ⟨hs,(show 0≤24 by omega),(show 1≤W.pos.lsn+1∧W.pos.lsn+1≤2147483647 by omega),hsum,b5⟩;have hlay:=(JM D (YH B W.pos.seg+W.pos.off) (rs++([]:List (Value×List UInt8)).flatMap (·.2)) (1+0)).2.2.2.1;have hBg:=KAT _ base d g t p Fd2 Ft Fw B _ _ lv _ h4 (by rw[hlay];omega)
 go_wp2_with (refine hBg.mono ?_;clear hBg;rintro e w5 ⟨rfl,Fd5,D5,W5,h5,hb5,hk5,hg5⟩)
 go_ret;have hsub:Keep (Fd++(Ft++[p])) w w2:=hkA.zero.trans hk2 (fun x hx=>.inl hx);have hsub3:Keep (Fd++(Ft++[p])) w w3:=hsub.trans hk3 (fun x hx=>.inl (by simp[hx]));have hsub4:=hsub3.trans hkp (fun x hx=>.inl (by simp at hx;simp[hx]));refine⟨rfl,Fd5,D5,_,W5,h5,?_,hsub4.trans hk5 ?_,(hg2.keep hkA).trans hsub.size (hg5.keep (hk3.sub (m:=Ft++[p]) (fun x hx=>by simp[hx]) |>.trans (hkp.sub (m:=Ft++[p]) (fun x hx=>by simp at hx;simp[hx])) (fun x hx=>.inl hx)))⟩
 · rcases hb5 with⟨h0,_⟩ | ⟨_,hd,hdl,rfl,rfl⟩
   · exact absurd h0 (by simp)
   · refine⟨rs,hd,sum,hrl,hdl,hsum,?_,?_,rfl⟩
     · simp
     · rw[XA HSEG]
 · intro x hx
   rcases List.mem_append.1 hx with hx | hx
   · rcases hg2 x hx with hx | hx
     · exact .inl (by simp[hx])
     · exact .inr (Nat.le_trans hkA.size hx)
   · exact .inl (by simp at hx;simp[hx])
end
section
open Go.RowKit
def Xa (W:PW):Nat:=if W.items=[] then W.pos.off else KC W.pos.off W.blocks.length
def JP (off n m:Nat):Prop:=n≤6∧KC off m<24
instance (off n m:Nat):Decidable (JP off n m):=by unfold JP;infer_instance
def Roomed (B:Nat) (D:PDisk) (us:List (Nat×Nat)) (lv:List Nat) (W:PW) (m:Nat) (D':PDisk) (us':List (Nat×Nat)) (lv':List Nat) (W':PW):Prop:=
 (JP W.pos.off (W.items.length+1) (W.blocks.length+m)∧D'=D∧us'=us∧lv'=lv∧W'=W) ∨
 (¬ JP W.pos.off (W.items.length+1) (W.blocks.length+m)∧JP (Xa W) 1 m∧Emitted B D us W D' us' W'∧lv'=lv) ∨
 (¬ JP W.pos.off (W.items.length+1) (W.blocks.length+m)∧¬ JP (Xa W) 1 m∧lv'=lv.set (YC us) 0 ∧
   ∃ D1 us1 W1,Emitted B D (QE us (YC us) 1) W D1 us1 W1∧Turned B D1 us1 W1 (YC us) D' us' W')
def KV (i:PItem):Nat:=if i.loaded then 1 else 0
def Added (B:Nat) (D:PDisk) (us:List (Nat×Nat)) (lv:List Nat) (W:PW) (i:PItem) (bs:List UInt8) (D':PDisk) (us':List (Nat×Nat)) (lv':List Nat) (W':PW) (a:Nat):Prop:=
 ∃ W1,Roomed B D us lv W (KV i) D' us' lv' W1∧W'=⟨W1.pos,W1.items++[i],if i.loaded then W1.blocks++[bs] else W1.blocks⟩ ∧
   a=if i.loaded then YH B W1.pos.seg+KC W1.pos.off 0+W1.blocks.length else 0
theorem Kf (us:List (Nat×Nat)) (s:Nat) (u:Nat×Nat) (hs:s<us.length):YD (us.set s u)+(if us[s].1=0 then 1 else 0)=YD us+(if u.1=0 then 1 else 0):=by
 induction us generalizing s with
 | nil=>simp at hs
 | cons v us ih=>
   cases s with
   | zero=>
     simp only[List.set_cons_zero,YD,List.countP_cons,List.getElem_cons_zero,beq_iff_eq]
     omega
   | succ s=>
     have:=ih s (by simpa using hs);simp only[List.set_cons_succ,YD,List.countP_cons,List.getElem_cons_succ] at this ⊢;omega
theorem Jb (us:List (Nat×Nat)) (s x:Nat) (hs:s<us.length):YD (VF us s x)=YD us:=by
 have:=Kf us s ((us.getD s (0,0)).1,x) hs;rw[QH hs] at this;unfold VF;rw[QH hs];simp only at this;omega
theorem QO (us:List (Nat×Nat)) (s x:Nat) (hs:s<us.length):YD (QE us s x)+(if (us.getD s (0,0)).1=0 then 1 else 0)=YD us+(if x=0 then 1 else 0):=by
 have:=Kf us s (x,(us.getD s (0,0)).2) hs;unfold QE;rw[QH hs] at this ⊢;simpa using this
theorem QV (us:List (Nat×Nat)) (h:0<YD us):YC us<us.length∧(us.getD (YC us) (0,0)).1=0:=by
 have h1:YC us<us.length:=by
  unfold YC;rw[List.findIdx_lt_length];obtain⟨u,hu,hp⟩:=List.countP_pos_iff.1 h;exact⟨u,hu,hp⟩
 refine⟨h1,?_⟩;rw[QH h1];have:=List.findIdx_getElem (p:=fun u:Nat×Nat=>u.1 == 0) (xs:=us) (w:=h1);exact beq_iff_eq.1 this
@[simp] theorem length_setStamp (us:List (Nat×Nat)) (s x:Nat):(VF us s x).length=us.length:=by simp[VF]
@[simp] theorem length_setState (us:List (Nat×Nat)) (s x:Nat):(QE us s x).length=us.length:=by simp[QE]
theorem JJ (us:List (Nat×Nat)) (s x k:Nat):((VF us s x).getD k (0,0)).1=(us.getD k (0,0)).1:=by
 unfold VF;rw[List.getD_eq_getElem?_getD,List.getElem?_set]
 split
 · rename_i e
   subst e
   split
   · rfl
   · rename_i h
     rw[List.getD_eq_getElem?_getD,List.getElem?_eq_none (by omega)]
 · rw[← List.getD_eq_getElem?_getD]
theorem ZG (us:List (Nat×Nat)) (s x k:Nat) (hs:s<us.length):((QE us s x).getD k (0,0)).1=if k=s then x else (us.getD k (0,0)).1:=by
 unfold QE;rw[List.getD_eq_getElem?_getD,List.getElem?_set]
 split
 · rename_i e
   subst e;simp[hs]
 · rename_i e
   rw[if_neg (fun h=>e h.symm),← List.getD_eq_getElem?_getD]
theorem Emitted.facts {B:Nat} {D D':PDisk} {us us':List (Nat×Nat)} {W W':PW} (h:Emitted B D us W D' us' W') (ho:W.Ok) :
 W'.items=[]∧W'.blocks=[]∧W'.pos.seg=W.pos.seg∧W'.pos.mount=W.pos.mount∧W.pos.lsn≤W'.pos.lsn∧W'.pos.lsn≤W.pos.lsn+1∧(W.items=[]→W'.pos.off=W.pos.off)∧(W.items≠[]→W'.pos.off=Xa W)∧D'.acts≤D.acts+8∧(us'=us∨us'=VF us W.pos.seg W.pos.lsn)∧(W'.pos.prev=W.pos.prev∨W'.pos.prev≤4294967295) ∧
 D'.n=D.n∧D'.off=D.off∧D'.fuse=D.fuse∧D'.faults=D.faults:=by
 rcases h with⟨h0,rfl,rfl,rfl⟩ | ⟨h0,D1,W1,rs,sum,hb,hr,hs,rfl,rfl,rfl⟩
 · have hm:=ho.many
   rw[h0] at hm;exact⟨h0,List.eq_nil_of_length_eq_zero hm,rfl,rfl,Nat.le_refl _,Nat.le_succ _,fun _=>rfl,fun h=>absurd h0 h,by omega,.inl rfl,.inl rfl,rfl,rfl,rfl,rfl⟩
 · obtain⟨e1,e2,e3,e4,e5,e6,e7,e8⟩:=hb.same
   have hl:=JM D1 (YH B W.pos.seg+W1.pos.off) (rs++W.blocks.flatten) (1+W.blocks.length);have hm:W.blocks.length≤6:=by rw[ho.many];exact Nat.le_trans (KM _) ho.few
   have hD:D1.n=D.n∧D1.off=D.off∧D1.fuse=D.fuse∧D1.faults=D.faults:=by
    rcases hb with⟨_,rfl,_⟩ | ⟨_,x,_,rfl,_⟩ <;> exact⟨rfl,rfl,rfl,rfl⟩
   refine⟨rfl,rfl,rfl,rfl,by simp,by simp,fun h=>absurd h h0,fun _=>?_,?_,.inr rfl,.inr hs,hl.1.trans hD.1,hl.2.1.trans hD.2.1,hl.2.2.1.trans hD.2.2.1,hl.2.2.2.2.1.trans hD.2.2.2⟩
   · unfold Xa;rw[if_neg h0];unfold KC;simp[e4]
   · rw[hl.2.2.2.1];omega
structure Cap (D:PDisk) (us:List (Nat×Nat)) (W:PW) (k j:Nat):Prop where
 ok:W.Ok
 ul:us.length=8
 seg:W.pos.seg<8
 off:W.pos.off≤23
 opn:(us.getD W.pos.seg (0,0)).1=1
 cs:∃ c s,11*s+c≤k∧max (Xa W) 1≤1+2*c∧7≤YD us+s
 acts:D.acts≤1000+40*j
 lsn:W.pos.lsn≤1+4*j
theorem Cap.free {D:PDisk} {us:List (Nat×Nat)} {W:PW} {k j:Nat} (h:Cap D us W k j) (hk:k≤50) {m:Nat} (hm:m≤1) (hf:¬ JP (Xa W) 1 m):2<YD us:=by
 obtain⟨c,s,h1,h2,h3⟩:=h.cs
 have:22≤Xa W:=by
  unfold JP KC at hf;omega
 omega
theorem Cap.mono {D:PDisk} {us:List (Nat×Nat)} {W:PW} {k k' j j':Nat} (h:Cap D us W k j) (hk:k≤k') (hj:j≤j'):Cap D us W k' j':=by
 obtain⟨c,s,h1,h2,h3⟩:=h.cs;exact⟨h.ok,h.ul,h.seg,h.off,h.opn,⟨c,s,by omega,h2,h3⟩,by have:=h.acts;omega,by have:=h.lsn;omega⟩
theorem KAo (p:PPos):PW.Ok ⟨p,[],[]⟩:=⟨by simp,by simp,by simp,rfl,fun h=>absurd rfl h⟩
theorem PW.Ok.snoc {W:PW} (h:W.Ok) {i:PItem} (hi:i.May) {bs:List UInt8} (hb:i.loaded=true→bs.length=64) (hf:JP W.pos.off (W.items.length+1) (W.blocks.length+KV i)) :
 PW.Ok ⟨W.pos,W.items++[i],if i.loaded then W.blocks++[bs] else W.blocks⟩:=by
 refine⟨by have:=hf.1;simp;omega,?_,?_,?_,fun _=>?_⟩
 · intro j hj
   rcases List.mem_append.1 hj with hj | hj
   · exact h.may j hj
   · simp at hj;subst hj;exact hi
 · intro b hbm
   simp only at hbm
   split at hbm
   · rename_i hl
     rcases List.mem_append.1 hbm with hj | hj
     · exact h.full b hj
     · simp at hj;subst hj;exact hb hl
   · exact h.full b hbm
 · simp only
   rw[Kk,← h.many]
   split <;> simp
 · have:=hf.2
   unfold KV at this;simp only
   split <;> rename_i hl <;> simp[hl] at this ⊢ <;> omega
theorem Zo (p:PPos) (is:List PItem) (i:PItem) (bl:List (List UInt8)):Xa ⟨p,is++[i],bl⟩=KC p.off bl.length:=by
 unfold Xa;rw[if_neg (by simp)]
theorem Cap.emitted {B:Nat} {D D':PDisk} {us us':List (Nat×Nat)} {W W':PW} {k j:Nat} (h:Cap D us W k j) (hE:Emitted B D us W D' us' W') :
 W'.Ok∧us'.length=8∧W'.pos.seg=W.pos.seg∧W'.pos.off≤23∧YD us'=YD us∧(us'.getD W'.pos.seg (0,0)).1=1∧max W'.pos.off 1=max (Xa W) 1∧W'.items=[]∧W'.blocks=[]∧D'.acts≤D.acts+8∧W'.pos.lsn≤W.pos.lsn+1:=by
 obtain⟨f1,f2,f3,f4,f5,f6,f7,f8,f9,f10,f11,f12⟩:=hE.facts h.ok
 have hof:W'.pos.off=Xa W:=by
  by_cases h0:W.items=[]
  · rw[f7 h0];unfold Xa;rw[if_pos h0]
  · exact f8 h0
 have hol:Xa W≤23:=by
  unfold Xa
  split
  · exact h.off
  · rename_i h0;exact h.ok.fit h0
 have hul:=h.ul;have hsg:=h.seg
 have hW':W'=⟨W'.pos,[],[]⟩:=by
  obtain⟨p,i,b⟩:=W';simp only at f1 f2;rw[f1,f2]
 refine⟨by rw[hW'];exact KAo _,?_,f3,by omega,?_,?_,by rw[hof],f1,f2,f9,f6⟩
 · rcases f10 with rfl | rfl <;> simp[hul]
 · rcases f10 with rfl | rfl
   · rfl
   · exact Jb _ _ _ (by omega)
 · rw[f3]
   rcases f10 with rfl | rfl
   · exact h.opn
   · rw[JJ];exact h.opn
theorem Cap.mark {B:Nat} {D D':PDisk} {us us':List (Nat×Nat)} {W W':PW} {k j:Nat} (h:Cap D us W k j) (hE:Emitted B D us W D' us' W') (n:Nat) (hn:n≤20) (D2:PDisk) (hD2:D2.acts≤D'.acts+n):Cap D2 us' W' k (j+1):=by
 obtain⟨e1,e2,e3,e4,e5,e6,e7,e8,e9,e10,e11⟩:=h.emitted hE;obtain⟨c,s,h1,h2,h3⟩:=h.cs;have hsg:=h.seg;refine⟨e1,e2,by omega,e4,e6,⟨c,s,by omega,?_,by omega⟩,by have:=h.acts;omega,by have:=h.lsn;omega⟩;have:Xa W'=W'.pos.off:=by unfold Xa;rw[if_pos e8]
 rw[this];omega
theorem Cap.added {B:Nat} {D D':PDisk} {us us':List (Nat×Nat)} {lv lv':List Nat} {W W':PW} {k j a:Nat} {i:PItem} {bs:List UInt8} (h:Cap D us W k j) (hk:k≤50) (hi:i.May) (hb:i.loaded=true→bs.length=64)
 (hA:Added B D us lv W i bs D' us' lv' W' a):Cap D' us' W' (k+1) (j+1):=by
 obtain⟨W1,hR,rfl,ha⟩:=hA;have hm:KV i≤1:=by unfold KV;split <;> omega
 have hbl:∀ b:List (List UInt8),(if i.loaded then b++[bs] else b).length=b.length+KV i:=by
  intro b;unfold KV;split <;> simp
 obtain⟨c,s,h1,h2,h3⟩:=h.cs;have hul:=h.ul;have hsg:=h.seg;rcases hR with⟨hf,rfl,rfl,rfl,rfl⟩ | ⟨hnf,hf,hE,rfl⟩ | ⟨hnf,hf,rfl,D1,us1,W2,hE,hT⟩
 · refine⟨h.ok.snoc hi hb hf,hul,hsg,h.off,h.opn,⟨c+1,s,by omega,?_,h3⟩,by have:=h.acts;omega,by have:=h.lsn;simp only;omega⟩
   rw[Zo,hbl]
   by_cases h0:W1.items=[]
   · have hm0:=h.ok.many
     rw[h0] at hm0;have hm1:W1.blocks.length=0:=hm0;rw[hm1];unfold Xa at h2;rw[if_pos h0] at h2;unfold KC;omega
   · unfold Xa at h2
     rw[if_neg h0] at h2;unfold KC at h2 ⊢;omega
 · obtain⟨e1,e2,e3,e4,e5,e6,e7,e8,e9,e10,e11⟩:=h.emitted hE
   have hfit:JP W1.pos.off (W1.items.length+1) (W1.blocks.length+KV i):=by
    rw[e8,e9];simp only[List.length_nil,Nat.zero_add];refine⟨by omega,?_⟩;have:=hf.2;unfold KC at this ⊢;omega
   refine⟨e1.snoc hi hb hfit,e2,by simp only;omega,by simpa using e4,by simpa using e6,⟨c+1,s,by omega,?_,by omega⟩,by have:=h.acts;omega,by have:=h.lsn;simp only;omega⟩;rw[Zo,hbl,e9];unfold KC;simp only[List.length_nil];omega
 · have hfree:=h.free hk hm hf
   obtain⟨g1,g2⟩:=QV us (by omega)
   have hne:W.pos.seg≠YC us:=by
    intro e;have:=h.opn;rw[e,g2] at this;omega
   have hC:Cap D (QE us (YC us) 1) W (k+11) j:=by
    refine⟨h.ok,by simpa using hul,hsg,h.off,?_,⟨c,s+1,by omega,h2,?_⟩,by have:=h.acts;omega,by have:=h.lsn;omega⟩
    · rw[ZG _ _ _ _ g1,if_neg hne];exact h.opn
    · have:=QO us (YC us) 1 g1
      rw[g2] at this;simp at this;omega
   obtain⟨e1,e2,e3,e4,e5,e6,e7,e8,e9,e10,e11⟩:=hC.emitted hE;obtain⟨rs,hd,sum,t1,t2,t3,rfl,rfl,rfl⟩:=hT;have hls:=JM D1 (YH B W2.pos.seg+W2.pos.off) rs 1;have hact:(Qg D1 (YH B W2.pos.seg+W2.pos.off) rs 1).acts=D1.acts+1:=hls.2.2.2.1;have h22:22≤Xa W:=by unfold JP KC at hf;omega
   have hfit:JP 1 (W2.items.length+1) (W2.blocks.length+KV i):=by
    rw[e8,e9];unfold JP KC;simp;omega
   have hW2:PW.Ok { W2 with pos:=⟨YC us,1,W2.pos.lsn+1,sum,W2.pos.mount⟩ }:=by
    have:({ W2 with pos:=⟨YC us,1,W2.pos.lsn+1,sum,W2.pos.mount⟩ }:PW)=⟨⟨YC us,1,W2.pos.lsn+1,sum,W2.pos.mount⟩,[],[]⟩:=by
     rw[e8,e9]
    rw[this];exact KAo _
   have hs1:W2.pos.seg<us1.length:=by rw[e2,e3];exact hsg
   refine⟨hW2.snoc hi hb hfit,by simpa using e2,by simp only;omega,by simp,?_,⟨1,s+1,by omega,?_,?_⟩,?_,?_⟩
   · simp only
     rw[ZG _ _ _ _ (by simpa using hs1),e3,if_neg (fun e=>hne e.symm),JJ];rcases hE.facts h.ok with⟨_,_,_,_,_,_,_,_,_,f10,_⟩;rcases f10 with rfl | rfl
     · rw[ZG _ _ _ _ g1,if_pos rfl]
     · rw[JJ,ZG _ _ _ _ g1,if_pos rfl]
   · rw[Zo,hbl,e9]
     unfold KC;simp only[List.length_nil];omega
   · have q:=QO (VF us1 W2.pos.seg W2.pos.lsn) W2.pos.seg 2 (by simpa using hs1)
     rw[JJ,e6,Jb _ _ _ hs1,e5] at q;have:=QO us (YC us) 1 g1;rw[g2] at this;simp at this q;omega
   · have:=h.acts
     show (Qg D1 (YH B W2.pos.seg+W2.pos.off) rs 1).acts+1≤_;omega
   · have:=h.lsn
     simp only;omega
end
section
open Go.RowKit
def KL (B:Nat) (D:PDisk) (W:PW) (a:Nat):List UInt8:=
 if YH B W.pos.seg+KC W.pos.off 0≤a∧a<YH B W.pos.seg+KC W.pos.off 0+W.blocks.length then W.blocks.getD (a-(YH B W.pos.seg+KC W.pos.off 0)) [] else seg 64 D.now a
structure Lies (B:Nat) (us:List (Nat×Nat)) (W:PW) (a:Nat):Prop where
 lo:6+4*pgs B≤a
 hi:a<198+4*pgs B
 used:(us.getD ((a-(6+4*pgs B)) / 24) (0,0)).1≠0
 here:(a-(6+4*pgs B)) / 24=W.pos.seg→(YH B W.pos.seg+1≤a∧a<YH B W.pos.seg+W.pos.off)∨(YH B W.pos.seg+KC W.pos.off 0≤a∧a<YH B W.pos.seg+KC W.pos.off 0+W.blocks.length)
theorem Zy {B s a:Nat} (h1:YH B s≤a) (h2:a<YH B s+24):(a-(6+4*pgs B)) / 24=s:=by unfold YH at *;omega
theorem Yq (D:PDisk) (k:Nat) (b:List UInt8) (hn:D.now.length=D.n*64) (hk:k<D.n) (hb:b.length=64) (x:Nat):seg 64 (D.write k b).now x=if x=k then b else seg 64 D.now x:=by
 have hle:(k+1)*64≤D.now.length:=by rw[hn];omega
 show seg 64 (laid D.now (k*64) b) x=_
 split
 · rename_i e
   subst e;exact seg_laid_same 64 D.now b x hle hb
 · rename_i e
   exact seg_laid_other 64 D.now b k x hle hb e
theorem Ko (D:PDisk) (k:Nat) (b:List UInt8) (hn:D.now.length=D.n*64) (hk:k<D.n) (hb:b.length=64):(D.write k b).now.length=(D.write k b).n*64:=by
 show (laid D.now (k*64) b).length=D.n*64;unfold laid;simp;omega
theorem Jn (D:PDisk) (a:Nat) (bs:List UInt8) (k:Nat) (hn:D.now.length=D.n*64) (hk:a+k≤D.n) (hb:64*k≤bs.length) :
 (Qg D a bs k).now.length=(Qg D a bs k).n*64∧∀ x,seg 64 (Qg D a bs k).now x=if a≤x∧x<a+k then seg 64 bs (x-a) else seg 64 D.now x:=by
 induction k with
 | zero=>exact⟨hn,fun x=>by rw[if_neg (by omega)];rfl⟩
 | succ k ih=>
   obtain⟨h1,h2⟩:=ih (by omega) (by omega);have hs:=JM D a bs k;rw[Xc];have hl:(seg 64 bs k).length=64:=length_seg 64 bs k (by omega);refine⟨Ko _ _ _ h1 (by rw[hs.1];omega) hl,fun x=>?_⟩;rw[Yq _ _ _ h1 (by rw[hs.1];omega) hl,h2]
   by_cases e:x=a+k
   · subst e
     rw[if_pos rfl,if_pos (by omega)]
     congr 1;omega
   · rw[if_neg e]
     by_cases e2:a≤x∧x<a+k
     · rw[if_pos e2,if_pos (by omega)]
     · rw[if_neg e2,if_neg (by omega)]
theorem YAQ (bl:List (List UInt8)) (h:∀ b∈bl,b.length=64) (i:Nat) (hi:i<bl.length):seg 64 bl.flatten i=bl[i]:=by
 induction bl generalizing i with
 | nil=>simp at hi
 | cons b bl ih=>
   have hb:b.length=64:=h b (by simp)
   cases i with
   | zero=>simp[seg,List.take_append_of_le_length,hb,List.take_of_length_le]
   | succ i=>
     have:=ih (fun c hc=>h c (by simp[hc])) i (by simpa using hi);simp only[List.getElem_cons_succ];rw[← this];unfold seg;rw[List.flatten_cons,List.drop_append];rw[List.drop_of_length_le (by omega),List.nil_append]
     congr 2
     omega
theorem Qv (bl:List (List UInt8)) (h:∀ b∈bl,b.length=64):bl.flatten.length=64*bl.length:=by
 induction bl with
 | nil=>rfl
 | cons b bl ih=>
   rw[List.flatten_cons,List.length_append,h b (by simp),ih (fun c hc=>h c (by simp[hc]))];simp;omega
theorem Emitted.reads {B:Nat} {D D':PDisk} {us us':List (Nat×Nat)} {W W':PW} (h:Emitted B D us W D' us' W') (ho:W.Ok) (hn:D.now.length=D.n*64) (hm:D.n=198+4*pgs B) (hs:W.pos.seg<8) (hof:W.pos.off≤23) :
 D'.now.length=D'.n*64∧∀ a,Lies B us W a→Lies B us' W' a∧KL B D' W' a=KL B D W a:=by
 rcases h with⟨h0,rfl,rfl,rfl⟩ | ⟨h0,D1,W1,rs,sum,hb,hr,hsu,rfl,rfl,rfl⟩
 · exact⟨hn,fun a ha=>⟨ha,rfl⟩⟩
 · obtain⟨e1,e2,e3,e4,e5,e6,e7,e8⟩:=hb.same
   have hfit:=ho.fit h0;have hbl:=Qv W.blocks ho.full;have hw1:W1.pos.off=max W.pos.off 1:=e4;have hend:W1.pos.off+1+W.blocks.length≤23:=by unfold KC at hfit;omega
   have hD1:D1.now.length=D1.n*64∧D1.n=D.n∧∀ x,x≠YH B W.pos.seg∨0<W.pos.off→seg 64 D1.now x=seg 64 D.now x:=by
    rcases hb with⟨_,rfl,_⟩ | ⟨hz,x,hx,rfl,_⟩
    · exact⟨hn,rfl,fun _ _=>rfl⟩
    · have hk:YH B W.pos.seg<D.n:=by rw[hm];unfold YH;omega
      refine⟨Ko _ _ _ hn hk hx,rfl,fun y hy=>?_⟩;rw[Yq _ _ _ hn hk hx,if_neg (by omega)]
   obtain⟨d1,d2,d3⟩:=hD1;have hL:=Jn D1 (YH B W.pos.seg+W1.pos.off) (rs++W.blocks.flatten) (1+W.blocks.length) d1 (by rw[d2,hm];unfold YH;omega) (by rw[List.length_append,hr,hbl];omega);refine⟨hL.1,fun a ha=>⟨⟨ha.lo,ha.hi,by rw[JJ];exact ha.used,fun e=>?_⟩,?_⟩⟩
   · simp only at e ⊢
     left;rcases ha.here e with h' | h' <;> (try unfold KC at h') <;> omega
   · unfold KL
     simp only[List.length_nil];rw[if_neg (by omega),hL.2]
     by_cases hw:YH B W.pos.seg+KC W.pos.off 0≤a∧a<YH B W.pos.seg+KC W.pos.off 0+W.blocks.length
     · rw[if_pos hw]
       obtain⟨w1,w2⟩:=hw;unfold KC at w1 w2;rw[if_pos (by omega)];have hi:a-(YH B W.pos.seg+KC W.pos.off 0)<W.blocks.length:=by unfold KC;omega
       rw[List.getD_eq_getElem?_getD,List.getElem?_eq_getElem hi];simp only[Option.getD_some];rw[← YAQ W.blocks ho.full _ hi];have:a-(YH B W.pos.seg+W1.pos.off)=(a-(YH B W.pos.seg+KC W.pos.off 0))+1:=by unfold KC;omega
       rw[this];unfold seg;rw[List.drop_append,List.drop_of_length_le (by omega),List.nil_append]
       congr 2
       omega
     · rw[if_neg hw]
       have hne:¬ (YH B W.pos.seg+W1.pos.off≤a∧a<YH B W.pos.seg+W1.pos.off+(1+W.blocks.length)):=by
        rintro⟨g1,g2⟩;rcases ha.here (Zy (by omega) (by omega)) with h' | h'
        · omega
        · exact hw h'
       rw[if_neg hne];refine d3 a ?_
       by_cases hz:W.pos.off=0
       · left
         intro e;rcases ha.here (Zy (by omega) (by omega)) with h' | h'
         · omega
         · exact hw h'
       · right;omega
theorem Turned.reads {B:Nat} {D D':PDisk} {us us':List (Nat×Nat)} {W W':PW} {s:Nat} (h:Turned B D us W s D' us' W') (hn:D.now.length=D.n*64) (hm:D.n=198+4*pgs B) (hs:W.pos.seg<8) (hof:W.pos.off≤23) (hof1:1≤W.pos.off) (hss:s<8) (hne:W.pos.seg≠s) (hul:us.length=8) (hb:W.blocks=[]) :
 D'.now.length=D'.n*64∧∀ a,Lies B us W a→(a-(6+4*pgs B)) / 24≠s→Lies B us' W' a∧KL B D' W' a=KL B D W a:=by
 obtain⟨rs,hd,sum,t1,t2,t3,rfl,rfl,rfl⟩:=h;have hL:=Jn D (YH B W.pos.seg+W.pos.off) rs 1 hn (by rw[hm];unfold YH;omega) (by omega);have hls:=JM D (YH B W.pos.seg+W.pos.off) rs 1;have hk:YH B s<(Qg D (YH B W.pos.seg+W.pos.off) rs 1).n:=by rw[hls.1,hm];unfold YH;omega
 refine⟨Ko _ _ _ hL.1 hk t2,fun a ha has=>⟨⟨ha.lo,ha.hi,?_,fun e=>absurd e has⟩,?_⟩⟩
 · rw[ZG _ _ _ _ (by simp;omega),JJ]
   split
   · omega
   · exact ha.used
 · unfold KL
   rw[hb];simp only[List.length_nil];rw[if_neg (by omega),if_neg (by omega),Yq _ _ _ hL.1 hk t2,hL.2];rw[if_neg (fun e=>has (by subst e;exact Zy (Nat.le_refl _) (by omega)))];rw[if_neg];rintro⟨g1,g2⟩;rcases ha.here (Zy (by omega) (by omega)) with h' | h'
   · omega
   · rw[hb] at h';simp at h';omega
end
section
open Go.RowKit
theorem Qj {B:Nat} {D:PDisk} {us:List (Nat×Nat)} {W:PW} (i:PItem) (bs:List UInt8) (hs:W.pos.seg<8) (hopn:(us.getD W.pos.seg (0,0)).1=1) (hf:JP W.pos.off (W.items.length+1) (W.blocks.length+KV i)) :
 (∀ x,Lies B us W x→Lies B us ⟨W.pos,W.items++[i],if i.loaded then W.blocks++[bs] else W.blocks⟩ x∧KL B D ⟨W.pos,W.items++[i],if i.loaded then W.blocks++[bs] else W.blocks⟩ x=KL B D W x∧(i.loaded=true→x≠YH B W.pos.seg+KC W.pos.off 0+W.blocks.length)) ∧
 (i.loaded=true→Lies B us ⟨W.pos,W.items++[i],if i.loaded then W.blocks++[bs] else W.blocks⟩ (YH B W.pos.seg+KC W.pos.off 0+W.blocks.length) ∧
   KL B D ⟨W.pos,W.items++[i],if i.loaded then W.blocks++[bs] else W.blocks⟩ (YH B W.pos.seg+KC W.pos.off 0+W.blocks.length)=bs):=by
 by_cases hl:i.loaded=true
 · simp only[hl,if_true]
   have hfit:=hf.2;unfold KV at hfit;rw[if_pos hl] at hfit
   have hne:∀ x,Lies B us W x→x≠YH B W.pos.seg+KC W.pos.off 0+W.blocks.length:=by
    rintro x hx rfl;rcases hx.here (Zy (by omega) (by unfold KC at hfit ⊢;omega)) with h' | h' <;> (try unfold KC at h') <;> omega
   refine⟨fun x hx=>⟨⟨hx.lo,hx.hi,hx.used,fun e=>?_⟩,?_,fun _=>hne x hx⟩,fun _=>⟨⟨?_,?_,?_,fun _=>.inr ⟨by dsimp only;omega,by simp⟩⟩,?_⟩⟩
   · simp only at e ⊢
     rcases hx.here e with h' | h'
     · exact .inl h'
     · exact .inr ⟨h'.1,by simp;omega⟩
   · have:=hne x hx
     unfold KL;simp only[List.length_append,List.length_singleton]
     by_cases h:YH B W.pos.seg+KC W.pos.off 0≤x∧x<YH B W.pos.seg+KC W.pos.off 0+W.blocks.length
     · rw[if_pos h,if_pos (by omega),List.getD_eq_getElem?_getD,List.getD_eq_getElem?_getD,List.getElem?_append_left (by omega)]
     · rw[if_neg h,if_neg (by omega)]
   · unfold YH KC;omega
   · unfold YH;unfold KC at hfit ⊢;omega
   · rw[Zy (s:=W.pos.seg) (by omega) (by unfold KC at hfit ⊢;omega),hopn];decide
   · unfold KL
     simp only[List.length_append,List.length_singleton];rw[if_pos (by omega),List.getD_eq_getElem?_getD,List.getElem?_append_right (by omega)];rw[show YH B W.pos.seg+KC W.pos.off 0+W.blocks.length-(YH B W.pos.seg+KC W.pos.off 0)-W.blocks.length=0 by omega];rfl
 · simp only[Bool.not_eq_true] at hl
   simp only[hl,Bool.false_eq_true,if_false,false_implies,and_true];exact fun x hx=>⟨⟨hx.lo,hx.hi,hx.used,hx.here⟩,rfl⟩
theorem Added.reads {B:Nat} {D D':PDisk} {us us':List (Nat×Nat)} {lv lv':List Nat} {W W':PW} {k j a:Nat} {i:PItem} {bs:List UInt8} (hA:Added B D us lv W i bs D' us' lv' W' a) (h:Cap D us W k j) (hk:k≤50)
 (hn:D.now.length=D.n*64) (hm:D.n=198+4*pgs B) :
 D'.now.length=D'.n*64∧D'.n=D.n∧D'.faults=D.faults∧(∀ x,Lies B us W x→Lies B us' W' x∧KL B D' W' x=KL B D W x∧(i.loaded=true→x≠a))∧(i.loaded=true→Lies B us' W' a∧KL B D' W' a=bs):=by
 obtain⟨W1,hR,rfl,ha⟩:=hA;have hb1:KV i≤1:=by unfold KV;split <;> omega
 have hul:=h.ul;have hsg:=h.seg;have hae:i.loaded=true→a=YH B W1.pos.seg+KC W1.pos.off 0+W1.blocks.length:=fun hl=>by rw[ha,if_pos hl]
 rcases hR with⟨hf,rfl,rfl,rfl,rfl⟩ | ⟨hnf,hf,hE,rfl⟩ | ⟨hnf,hf,rfl,D1,us1,W2,hE,hT⟩
 · obtain⟨r1,r2⟩:=Qj (D:=D') i bs hsg h.opn hf
   refine⟨hn,rfl,rfl,fun x hx=>?_,fun hl=>by rw[hae hl];exact r2 hl⟩;obtain⟨q1,q2,q3⟩:=r1 x hx;exact⟨q1,q2,fun hl=>by rw[hae hl];exact q3 hl⟩
 · obtain⟨e1,e2,e3,e4,e5,e6,e7,e8,e9,e10,e11⟩:=h.emitted hE
   obtain⟨r1,r2⟩:=hE.reads h.ok hn hm hsg h.off;obtain⟨_,_,_,_,_,_,_,_,_,_,_,f1,_,_,f4⟩:=hE.facts h.ok
   have hfit:JP W1.pos.off (W1.items.length+1) (W1.blocks.length+KV i):=by
    rw[e8,e9];refine⟨by simp,?_⟩;have:=hf.2;simp only[List.length_nil,Nat.zero_add];unfold KC at this ⊢;omega
   obtain⟨s1,s2⟩:=Qj (B:=B) (D:=D') i bs (by omega) e6 hfit;refine⟨r1,f1,f4,fun x hx=>?_,fun hl=>by rw[hae hl];exact s2 hl⟩;obtain⟨q1,q2⟩:=r2 x hx;obtain⟨q3,q4,q5⟩:=s1 x q1;exact⟨q3,q4.trans q2,fun hl=>by rw[hae hl];exact q5 hl⟩
 · have hfree:=h.free hk hb1 hf
   obtain⟨g1,g2⟩:=QV us (by omega)
   have hne:W.pos.seg≠YC us:=by
    intro e;have:=h.opn;rw[e,g2] at this;omega
   have hC:Cap D (QE us (YC us) 1) W (k+11) j:=by
    obtain⟨c,s,h1,h2,h3⟩:=h.cs;refine⟨h.ok,by simpa using hul,hsg,h.off,?_,⟨c,s+1,by omega,h2,?_⟩,h.acts,h.lsn⟩
    · rw[ZG _ _ _ _ g1,if_neg hne];exact h.opn
    · have:=QO us (YC us) 1 g1
      rw[g2] at this;simp at this;omega
   obtain⟨e1,e2,e3,e4,e5,e6,e7,e8,e9,e10,e11⟩:=hC.emitted hE;obtain⟨r1,r2⟩:=hE.reads hC.ok hn hm hsg h.off;obtain⟨_,_,_,_,_,_,_,_,_,_,_,f1,_,_,f4⟩:=hE.facts h.ok;have h22:22≤Xa W:=by unfold JP KC at hf;omega
   have hT0:=hT;obtain⟨t1,t2⟩:=hT.reads r1 (f1.trans hm) (by omega) e4 (by omega) (by omega) (by omega) e2 e9;obtain⟨rs,hd,sum,u1,u2,u3,hD',hus,hW1⟩:=hT0;have hls:=JM D1 (YH B W2.pos.seg+W2.pos.off) rs 1
   have hfit:JP W1.pos.off (W1.items.length+1) (W1.blocks.length+KV i):=by
    rw[hW1];simp only[e8,e9];unfold JP KC;simp;omega
   have hsg1:W1.pos.seg=YC us:=by rw[hW1]
   have hop1:(us'.getD W1.pos.seg (0,0)).1=1:=by
    rw[hsg1,hus,ZG _ _ _ _ (by simp;omega),e3,if_neg (fun e=>hne e.symm),JJ];rcases hE.facts h.ok with⟨_,_,_,_,_,_,_,_,_,f10,_⟩;rcases f10 with rfl | rfl
    · rw[ZG _ _ _ _ g1,if_pos rfl]
    · rw[JJ,ZG _ _ _ _ g1,if_pos rfl]
   obtain⟨s1,s2⟩:=Qj (B:=B) (D:=D') i bs (by omega) hop1 hfit;have hDn:D'.n=D.n:=by rw[hD'];exact hls.1.trans f1
   have hDf:D'.faults=D.faults:=by rw[hD'];exact hls.2.2.2.2.1.trans f4
   refine⟨t1,hDn,hDf,fun x hx=>?_,fun hl=>by rw[hae hl];exact s2 hl⟩;have hxs:(x-(6+4*pgs B)) / 24≠YC us:=fun e=>hx.used (by rw[e];exact g2);have hx':Lies B (QE us (YC us) 1) W x:=⟨hx.lo,hx.hi,by rw[ZG _ _ _ _ g1,if_neg hxs];exact hx.used,hx.here⟩;obtain⟨q1,q2⟩:=r2 x hx';obtain⟨q3,q4⟩:=t2 x q1 hxs;obtain⟨q5,q6,q7⟩:=s1 x q3;exact⟨q5,q6.trans (q4.trans q2),fun hl=>by rw[hae hl];exact q7 hl⟩
end
section
open Go.RowKit Go.Shelf
theorem LogIs.ul {w:World} {base d g t p:Nat} {Fd Ft Fw:List Nat} {B:Nat} {D:PDisk} {us:List (Nat×Nat)} {lv:List Nat} {W:PW} (h:LogIs w base d g t p Fd Ft Fw B D us lv W):us.length=8:=by obtain⟨L,V,ht⟩:=h.tab;exact ht.ulen
def QAg (us:List (Nat×Nat)) (W:PW) (m:Nat) (spare:Bool):Prop:=
 ¬ JP W.pos.off (W.items.length+1) (W.blocks.length+m)→¬ JP (Xa W) 1 m→YC us<8∧(us.getD (YC us) (0,0)).1=0∧(spare=false→2<YD us)
theorem VAe (w:World) (base d g t p:Nat) (Fd Ft Fw:List Nat) (B:Nat) (D:PDisk) (us:List (Nat×Nat)) (lv:List Nat) (W:PW) (h:LogIs w base d g t p Fd Ft Fw B D us lv W) (ho:W.Ok) (m:Nat) (hm:m≤1) (spare:Bool)
 (hf:JP W.pos.off (W.items.length+1) (W.blocks.length+m)) :
 Calls Tryz.prog 114 #[.pointer (some ⟨p,0,none⟩),.int .i64 (m:Nat),.bool spare] w fun e w'=>e=.returned (.int .i64 0)∧Keep [] w w':=by
 obtain⟨I,Bv,ls,hw⟩:=h.wri;obtain⟨IA,ic,rfl,_⟩:=ZB hw.its;obtain⟨BA,bc,rfl,_⟩:=ZB hw.bls;have hblk:=hw.blk;have hll:=hw.len;have hm6:W.blocks.length≤6:=by rw[ho.many];exact Nat.le_trans (KM _) ho.few
 have hn6:=ho.few;have hoff:=h.pos.2.1;obtain⟨n,hn⟩:∃ n,n=W.items.length:=⟨_,rfl⟩;obtain⟨mb,hmb⟩:∃ n,n=W.blocks.length:=⟨_,rfl⟩;obtain⟨off,hof⟩:∃ n,n=W.pos.off:=⟨_,rfl⟩;rw[← hn] at hblk hn6 hf;rw[← hmb] at hll hm6 hf;rw[hll,← hof] at hblk;rw[← hof] at hoff hf;have hF:=Xh w.drew p g B _ hblk.drew (by simp) (h.geom.keep0 (Keep.refl _ _).drew) off (n+1) (mb+m) (by omega) (by omega) (by omega);rw[decide_eq_true (show n+1≤6∧KC off (mb+m)<24 from hf),show ((n+1:Nat):Int)=(n:Int)+1 by omega,show ((mb+m:Nat):Int)=(mb:Int)+(m:Int) by omega] at hF;obtain⟨c0,c1,c2,c3,c4,c5,c6,c7,c8,c9⟩:=VD hblk.drew;clear hof hn hmb hll hf
 go_enter Tryz.func114,Tryz.ntmps114
 go_wp2_with fail
 refine ZT (fun w'=>w'.cell? ⟨p,4,none⟩=some (.int .i64 off)∧w'.cell? ⟨p,8,none⟩=some (.slice IA n ic)∧w'.cell? ⟨p,9,none⟩=some (.slice BA mb bc)) 19 [[0,1,2,3,4,5,6,7,8,9,10,11,12,13,14,15,16,17,18]] ⟨c4,c8,c9⟩ ?_;simp only[PI]
 iterate 19 (refine ZH ?_;simp only[Act.put,PU])
 refine YB ?_
 go_wp2_with (refine hF.mono ?_;clear hF;rintro e w2 ⟨rfl,hk2⟩)
 go_ret;exact⟨rfl,(Keep.refl _ _).drew.trans0 hk2⟩
theorem KAn (w:World) (base d g t p:Nat) (Fd Ft Fw:List Nat) (B:Nat) (D:PDisk) (us:List (Nat×Nat)) (lv:List Nat) (W:PW) (h:LogIs w base d g t p Fd Ft Fw B D us lv W) (ho:W.Ok) (hoo:W.pos.off≤23) (m:Nat) (hm:m≤1) (spare:Bool) (ha:D.acts≤1000000) (hlsn:W.pos.lsn<2147483647)
 (hnf:¬ JP W.pos.off (W.items.length+1) (W.blocks.length+m)) (hf:JP (Xa W) 1 m) :
 Calls Tryz.prog 114 #[.pointer (some ⟨p,0,none⟩),.int .i64 (m:Nat),.bool spare] w fun e w'=>e=.returned (.int .i64 0)∧∃ Fd' Fw' D' us' W',LogIs w' base d g t p Fd' Ft Fw' B D' us' lv W'∧Emitted B D us W D' us' W'∧Keep (Fd++(Ft++Fw)) w w'∧Grow w Fd Fd'∧Grow w Fw Fw':=by
 have hE:=fun W1 (hk:Keep [] w W1)=>VAD W1 base d g t p Fd Ft Fw B D us lv W (h.keep0 hk) ho ha hlsn;obtain⟨I,Bv,ls,hw⟩:=h.wri;obtain⟨IA,ic,rfl,_⟩:=ZB hw.its;obtain⟨BA,bc,rfl,_⟩:=ZB hw.bls;have hblk:=hw.blk;have hll:=hw.len;have hm6:W.blocks.length≤6:=by rw[ho.many];exact Nat.le_trans (KM _) ho.few
 have hn6:=ho.few;have hoff:=h.pos.2.1;have hgm:=h.geom;have hB0:W.items.length=0→W.items=[]:=List.eq_nil_of_length_eq_zero;have hB1:W.items=[]→W.items.length=0:=fun e=>by rw[e];rfl
 obtain⟨n,hn⟩:∃ n,n=W.items.length:=⟨_,rfl⟩;obtain⟨mb,hmb⟩:∃ n,n=W.blocks.length:=⟨_,rfl⟩;obtain⟨off,hof⟩:∃ n,n=W.pos.off:=⟨_,rfl⟩;obtain⟨o2,ho2⟩:∃ n,n=Xa W:=⟨_,rfl⟩
 have ho2':(n=0∧o2=off)∨(0<n∧o2=KC off mb):=by
  rw[ho2,hn,hof,hmb];unfold Xa
  by_cases h0:W.items.length=0
  · exact .inl ⟨h0,by rw[if_pos (hB0 h0)]⟩
  · exact .inr ⟨by omega,by rw[if_neg (fun e=>h0 (hB1 e))]⟩
 have hfb:o2≤100:=by rcases ho2' with⟨_,e⟩ | ⟨_,e⟩ <;> rw[e] <;> first | omega | (unfold KC;omega)
 rw[← ho2] at hf;rw[← hn] at hblk hn6 hnf;rw[← hmb] at hll hm6 hnf;rw[hll,← hof] at hblk;rw[← hof] at hoff hnf;have hF1:=Xh w.drew p g B _ hblk.drew (by simp) (hgm.keep0 (Keep.refl _ _).drew) off (n+1) (mb+m) (by omega) (by omega) (by omega);rw[decide_eq_false (show ¬ (n+1≤6∧KC off (mb+m)<24) from hnf),show ((n+1:Nat):Int)=(n:Int)+1 by omega,show ((mb+m:Nat):Int)=(mb:Int)+(m:Int) by omega] at hF1;have hF2:=fun W1 (hk:Keep [] w W1)=>Xh W1 p g B _ (hblk.keep0 hk) (by simp) (hgm.keep0 hk) o2 1 m hfb (by omega) (by omega);have hbe:=fun W1=>Ka off mb (by omega) (by omega) W1;rw[decide_eq_true (show 1≤6∧KC o2 m<24 from hf)] at hF2
 have hpk:∀ {W1},Keep [] w W1→W1.cell? ⟨p,2,none⟩=some (.pointer (some ⟨t,0,none⟩))∧W1.cell? ⟨p,4,none⟩=some (.int .i64 off)∧W1.cell? ⟨p,8,none⟩=some (.slice IA n ic)∧W1.cell? ⟨p,9,none⟩=some (.slice BA mb bc):=fun hk=>by
  obtain⟨c0,c1,c2,c3,c4,c5,c6,c7,c8,c9⟩:=VD (hblk.keep0 hk);exact⟨c2,c4,c8,c9⟩
 obtain⟨c2,c4,c8,c9⟩:=hpk (Keep.refl _ _).drew;have H1:=JB hof;have H2:=JB hn;have H3:=JB hmb;have H4:=JB ho2;clear hof hn hmb hll hnf hB0 hB1 ho2;rcases ho2' with⟨rfl,rfl⟩ | ⟨hn0,rfl⟩
 · clear hbe
   go_enter Tryz.func114,Tryz.ntmps114
   go_wp2_with fail
   refine ZT (fun w'=>w'.cell? ⟨p,4,none⟩=some (.int .i64 o2)∧w'.cell? ⟨p,8,none⟩=some (.slice IA (0:Nat) ic)∧w'.cell? ⟨p,9,none⟩=some (.slice BA mb bc)) 19 [[0,1,2,3,4,5,6,7,8,9,10,11,12,13,14,15,16,17,18]] ⟨c4,c8,c9⟩ ?_;simp only[PI]
   iterate 19 (refine ZH ?_;simp only[Act.put,PU])
   refine YB ?_;clear c2 c4 c8 c9
   go_wp2_with (first
    | (go_at_call 201
       refine hF1.mono ?_;clear hF1;rintro e w2 ⟨rfl,hk2⟩;replace hk2:=(Keep.refl [] w).drew.trans0 hk2
       obtain⟨c2,c4,c8,c9⟩:=hpk hk2)
    | (go_at_call 201
       refine(hF2 _ hk2).mono ?_;clear hF2;rintro e w3 ⟨rfl,hk3⟩;replace hk3:=hk2.trans0 hk3
       obtain⟨c2,c4,c8,c9⟩:=hpk hk3)
    | (go_at_call 117
       refine(hE _ hk3).mono ?_;clear hE;rintro e w4 ⟨rfl,Fd',Fw',D',us',W',h4,hE4,hk4,hg4,hgw4⟩))
   go_ret;exact⟨rfl,Fd',Fw',D',us',W',h4,hE4,hk3.zero.trans hk4 (fun x hx=>.inl hx),hg4.keep hk3,hgw4.keep hk3⟩
 · have hnI:(0:Int)<(n:Nat):=by omega
   go_enter Tryz.func114,Tryz.ntmps114
   go_wp2_with fail
   refine ZT (fun w'=>w'.cell? ⟨p,4,none⟩=some (.int .i64 off)∧w'.cell? ⟨p,8,none⟩=some (.slice IA n ic)∧w'.cell? ⟨p,9,none⟩=some (.slice BA mb bc)) 19 [[0,1,2,3,4,5,6,7,8,9,10,11,12,13,14,15,16,17,18]] ⟨c4,c8,c9⟩ ?_;simp only[PI]
   iterate 19 (refine ZH ?_;simp only[Act.put,PU])
   refine YB ?_;clear c2 c4 c8 c9
   go_wp2_with (first
    | (go_at_call 201
       refine hF1.mono ?_;clear hF1;rintro e w2 ⟨rfl,hk2⟩;replace hk2:=(Keep.refl [] w).drew.trans0 hk2
       obtain⟨c2,c4,c8,c9⟩:=hpk hk2)
    | (go_at_call 202
       refine(hbe _).mono ?_;clear hbe
       rintro e w' ⟨rfl,rfl⟩)
    | (go_at_call 201
       refine(hF2 _ hk2).mono ?_;clear hF2;rintro e w3 ⟨rfl,hk3⟩;replace hk3:=hk2.trans0 hk3
       obtain⟨c2,c4,c8,c9⟩:=hpk hk3)
    | (go_at_call 117
       refine(hE _ hk3).mono ?_;clear hE;rintro e w4 ⟨rfl,Fd',Fw',D',us',W',h4,hE4,hk4,hg4,hgw4⟩))
   go_ret;exact⟨rfl,Fd',Fw',D',us',W',h4,hE4,hk3.zero.trans hk4 (fun x hx=>.inl hx),hg4.keep hk3,hgw4.keep hk3⟩
theorem ZAd (w:World) (base d g t p:Nat) (Fd Ft Fw:List Nat) (B:Nat) (D:PDisk) (us:List (Nat×Nat)) (lv:List Nat) (W:PW) (h:LogIs w base d g t p Fd Ft Fw B D us lv W) (ho:W.Ok) (hoo:W.pos.off≤23) (m:Nat) (hm:m≤1) (spare:Bool) (ha:D.acts≤900000) (hlsn:W.pos.lsn<2147483646)
 (hnf:¬ JP W.pos.off (W.items.length+1) (W.blocks.length+m)) (hf:¬ JP (Xa W) 1 m) (hop:(us.getD W.pos.seg (0,0)).1=1) (hs8:YC us<8) (hs0:(us.getD (YC us) (0,0)).1=0) (hsp:spare=false→2<YD us) :
 Calls Tryz.prog 114 #[.pointer (some ⟨p,0,none⟩),.int .i64 (m:Nat),.bool spare] w fun e w'=>e=.returned (.int .i64 0)∧∃ Fd' Fw' D1 us1 W1 D' us' W',LogIs w' base d g t p Fd' Ft Fw' B D' us' (lv.set (YC us) 0) W'∧Emitted B D (QE us (YC us) 1) W D1 us1 W1∧Turned B D1 us1 W1 (YC us) D' us' W'∧Keep (Fd++(Ft++Fw)) w w'∧Grow w Fd Fd'∧Grow w Fw Fw':=by
 have hul:=h.ul;have hTk:=fun W1 (hk:Keep [] w W1)=>YAz W1 base t g Ft us lv (h.keep0 hk).tab spare hsp hs8;have h22:22≤Xa W:=by unfold JP KC at hf;omega
 have hE:=fun W1 (h1:LogIs W1 base d g t p Fd Ft Fw B D (QE us (YC us) 1) (lv.set (YC us) 0) W)=>VAD W1 base d g t p Fd Ft Fw B D _ _ W h1 ho (by omega) (by omega);have hfacts:=fun D1 us1 W1 (hE1:Emitted B D (QE us (YC us) 1) W D1 us1 W1)=>hE1.facts ho
 have hTn:∀ W2 Fd1 Fw1 D1 us1 W1,LogIs W2 base d g t p Fd1 Ft Fw1 B D1 us1 (lv.set (YC us) 0) W1→Emitted B D (QE us (YC us) 1) W D1 us1 W1 →
  Calls Tryz.prog 204 #[.pointer (some ⟨p,0,none⟩),.int .i64 (YC us:Nat)] W2 fun e w'=>e=.returned (.int .i64 0)∧∃ Fd' D' us' W',LogIs w' base d g t p Fd' Ft Fw1 B D' us' (lv.set (YC us) 0) W'∧Turned B D1 us1 W1 (YC us) D' us' W'∧Keep (Fd1++(Ft++[p])) W2 w'∧Grow W2 Fd1 Fd':=by
  intro W2 Fd1 Fw1 D1 us1 W1 h1 hE1;obtain⟨f1,f2,f3,f4,f5,f6,f7,f8,f9,f10,f11⟩:=hfacts _ _ _ hE1
  have hof1:W1.pos.off=Xa W:=by
   by_cases h0:W.items=[]
   · rw[f7 h0];unfold Xa;rw[if_pos h0]
   · exact f8 h0
  have hol:Xa W≤23:=by
   unfold Xa
   split
   · exact hoo
   · rename_i h0;exact ho.fit h0
  have hsl:=h.pos.1;have hne:W.pos.seg≠YC us:=fun e=>by rw[e,hs0] at hop;cases hop
  refine YBM W2 base d g t p Fd1 Ft Fw1 B D1 us1 _ W1 h1 (YC us) (by omega) (by omega) (by omega) (by omega) (by omega) ?_;rw[f3];rcases f10 with rfl | rfl
  · rw[ZG _ _ _ _ (by omega),if_neg hne];exact hop
  · rw[JJ,ZG _ _ _ _ (by omega),if_neg hne];exact hop
 have hGe:=h;clear hfacts h22 hul;obtain⟨I,Bv,ls,hw⟩:=h.wri;obtain⟨IA,ic,rfl,_⟩:=ZB hw.its;obtain⟨BA,bc,rfl,_⟩:=ZB hw.bls;have hblk:=hw.blk;have hll:=hw.len;have hm6:W.blocks.length≤6:=by rw[ho.many];exact Nat.le_trans (KM _) ho.few
 have hn6:=ho.few;have hoff:=h.pos.2.1;have hgm:=h.geom;have hB0:W.items.length=0→W.items=[]:=List.eq_nil_of_length_eq_zero;have hB1:W.items=[]→W.items.length=0:=fun e=>by rw[e];rfl
 obtain⟨n,hn⟩:∃ n,n=W.items.length:=⟨_,rfl⟩;obtain⟨mb,hmb⟩:∃ n,n=W.blocks.length:=⟨_,rfl⟩;obtain⟨off,hof⟩:∃ n,n=W.pos.off:=⟨_,rfl⟩;obtain⟨o2,ho2⟩:∃ n,n=Xa W:=⟨_,rfl⟩
 have ho2':(n=0∧o2=off)∨(0<n∧o2=KC off mb):=by
  rw[ho2,hn,hof,hmb];unfold Xa
  by_cases h0:W.items.length=0
  · exact .inl ⟨h0,by rw[if_pos (hB0 h0)]⟩
  · exact .inr ⟨by omega,by rw[if_neg (fun e=>h0 (hB1 e))]⟩
 have hfb:o2≤100:=by rcases ho2' with⟨_,e⟩ | ⟨_,e⟩ <;> rw[e] <;> first | omega | (unfold KC;omega)
 rw[← ho2] at hf;rw[← hn] at hblk hn6 hnf;rw[← hmb] at hll hm6 hnf;rw[hll,← hof] at hblk;rw[← hof] at hoff hnf;have hF1:=Xh w.drew p g B _ hblk.drew (by simp) (hgm.keep0 (Keep.refl _ _).drew) off (n+1) (mb+m) (by omega) (by omega) (by omega);rw[decide_eq_false (show ¬ (n+1≤6∧KC off (mb+m)<24) from hnf),show ((n+1:Nat):Int)=(n:Int)+1 by omega,show ((mb+m:Nat):Int)=(mb:Int)+(m:Int) by omega] at hF1;have hF2:=fun W1 (hk:Keep [] w W1)=>Xh W1 p g B _ (hblk.keep0 hk) (by simp) (hgm.keep0 hk) o2 1 m hfb (by omega) (by omega);have hbe:=fun W1=>Ka off mb (by omega) (by omega) W1;rw[decide_eq_false (show ¬ (1≤6∧KC o2 m<24) from hf)] at hF2
 have hpk:∀ {W1},Keep [] w W1→W1.cell? ⟨p,2,none⟩=some (.pointer (some ⟨t,0,none⟩))∧W1.cell? ⟨p,4,none⟩=some (.int .i64 off)∧W1.cell? ⟨p,8,none⟩=some (.slice IA n ic)∧W1.cell? ⟨p,9,none⟩=some (.slice BA mb bc):=fun hk=>by
  obtain⟨c0,c1,c2,c3,c4,c5,c6,c7,c8,c9⟩:=VD (hblk.keep0 hk);exact⟨c2,c4,c8,c9⟩
 obtain⟨c2,c4,c8,c9⟩:=hpk (Keep.refl _ _).drew;have H1:=JB hof;have H2:=JB hn;have H3:=JB hmb;have H4:=JB ho2;clear hof hn hmb hll hnf hB0 hB1 ho2;rcases ho2' with⟨rfl,rfl⟩ | ⟨hn0,rfl⟩
 · clear hbe
   go_enter Tryz.func114,Tryz.ntmps114
   go_wp2_with fail
   refine ZT (fun w'=>w'.cell? ⟨p,4,none⟩=some (.int .i64 o2)∧w'.cell? ⟨p,8,none⟩=some (.slice IA (0:Nat) ic)∧w'.cell? ⟨p,9,none⟩=some (.slice BA mb bc)) 19 [[0,1,2,3,4,5,6,7,8,9,10,11,12,13,14,15,16,17,18]] ⟨c4,c8,c9⟩ ?_;simp only[PI]
   iterate 19 (refine ZH ?_;simp only[Act.put,PU])
   refine YB ?_;clear c2 c4 c8 c9
   go_wp2_with (first
    | (go_at_call 201
       refine hF1.mono ?_;clear hF1;rintro e w2 ⟨rfl,hk2⟩;replace hk2:=(Keep.refl [] w).drew.trans0 hk2
       obtain⟨c2,c4,c8,c9⟩:=hpk hk2)
    | (go_at_call 201
       refine(hF2 _ hk2).mono ?_;clear hF2;rintro e w3 ⟨rfl,hk3⟩;replace hk3:=hk2.trans0 hk3
       obtain⟨c2,c4,c8,c9⟩:=hpk hk3)
    | (go_at_call 203
       refine(hTk _ hk3).mono ?_;clear hTk;rintro e w4 ⟨rfl,ht4,hk4⟩
       have h4:=(hGe.keep0 hk3).setTab ht4 hk4)
    | (go_at_call 117
       refine(hE _ h4).mono ?_;clear hE
       rintro e w5 ⟨rfl,Fd1,Fw1,D1,us1,W1,h5,hE5,hk5,hg5,hgw5⟩)
    | (go_at_call 204
       refine(hTn _ _ _ _ _ _ h5 hE5).mono ?_;clear hTn;rintro e w6 ⟨rfl,Fd2,D2,us2,W2,h6,hT6,hk6,hg6⟩))
   go_ret;have hK4:Keep (Fd++(Ft++Fw)) w w4:=hk3.zero.trans hk4 (fun x hx=>.inl (by simp[hx]));have hK5:=hK4.trans hk5 (fun x hx=>.inl hx);refine⟨rfl,Fd2,Fw1,D1,us1,W1,D2,us2,W2,h6,hE5,hT6,hK5.trans hk6 ?_,(hg5.keep hK4).trans hK5.size hg6,hgw5.keep hK4⟩;intro x hx;simp only[List.mem_append,List.mem_singleton] at hx ⊢;rcases hx with hx | hx | rfl
   · rcases hg5 x hx with hx | hx
     · exact .inl (.inl hx)
     · exact .inr (Nat.le_trans hK4.size hx)
   · exact .inl (.inr (.inl hx))
   · exact .inl (.inr (.inr hw.inP))
 · have hnI:(0:Int)<(n:Nat):=by omega
   go_enter Tryz.func114,Tryz.ntmps114
   go_wp2_with fail
   refine ZT (fun w'=>w'.cell? ⟨p,4,none⟩=some (.int .i64 off)∧w'.cell? ⟨p,8,none⟩=some (.slice IA n ic)∧w'.cell? ⟨p,9,none⟩=some (.slice BA mb bc)) 19 [[0,1,2,3,4,5,6,7,8,9,10,11,12,13,14,15,16,17,18]] ⟨c4,c8,c9⟩ ?_;simp only[PI]
   iterate 19 (refine ZH ?_;simp only[Act.put,PU])
   refine YB ?_;clear c2 c4 c8 c9
   go_wp2_with (first
    | (go_at_call 201
       refine hF1.mono ?_;clear hF1;rintro e w2 ⟨rfl,hk2⟩;replace hk2:=(Keep.refl [] w).drew.trans0 hk2
       obtain⟨c2,c4,c8,c9⟩:=hpk hk2)
    | (go_at_call 202
       refine(hbe _).mono ?_;clear hbe
       rintro e w' ⟨rfl,rfl⟩)
    | (go_at_call 201
       refine(hF2 _ hk2).mono ?_;clear hF2;rintro e w3 ⟨rfl,hk3⟩;replace hk3:=hk2.trans0 hk3
       obtain⟨c2,c4,c8,c9⟩:=hpk hk3)
    | (go_at_call 203
       refine(hTk _ hk3).mono ?_;clear hTk;rintro e w4 ⟨rfl,ht4,hk4⟩
       have h4:=(hGe.keep0 hk3).setTab ht4 hk4)
    | (go_at_call 117
       refine(hE _ h4).mono ?_;clear hE
       rintro e w5 ⟨rfl,Fd1,Fw1,D1,us1,W1,h5,hE5,hk5,hg5,hgw5⟩)
    | (go_at_call 204
       refine(hTn _ _ _ _ _ _ h5 hE5).mono ?_;clear hTn;rintro e w6 ⟨rfl,Fd2,D2,us2,W2,h6,hT6,hk6,hg6⟩))
   go_ret;have hK4:Keep (Fd++(Ft++Fw)) w w4:=hk3.zero.trans hk4 (fun x hx=>.inl (by simp[hx]));have hK5:=hK4.trans hk5 (fun x hx=>.inl hx);refine⟨rfl,Fd2,Fw1,D1,us1,W1,D2,us2,W2,h6,hE5,hT6,hK5.trans hk6 ?_,(hg5.keep hK4).trans hK5.size hg6,hgw5.keep hK4⟩;intro x hx;simp only[List.mem_append,List.mem_singleton] at hx ⊢;rcases hx with hx | hx | rfl
   · rcases hg5 x hx with hx | hx
     · exact .inl (.inl hx)
     · exact .inr (Nat.le_trans hK4.size hx)
   · exact .inl (.inr (.inl hx))
   · exact .inl (.inr (.inr hw.inP))
end
end Go.Proofs.YtkonbpfbjiepfaaGreat
