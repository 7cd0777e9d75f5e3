/- Lemmas of the proof, with their conditions. -/
import Derived.Test.YtkonbpfbjiepfaaGreatT20
namespace Go.Proofs.YtkonbpfbjiepfaaGreat
set_option linter.unusedSimpArgs false
set_option linter.unusedVariables false
section
open Go.RowKit
def Yh (W:PW):Nat:=if W.items=[] then W.pos.off else KC W.pos.off W.blocks.length
def QU (off n m:Nat):Prop:=n≤6∧KC off m<24
instance (off n m:Nat):Decidable (QU off n m):=by unfold QU;infer_instance
def Roomed (B:Nat) (D:PDisk) (us:List (Nat×Nat)) (lv:List Nat) (W:PW) (m:Nat) (D':PDisk) (us':List (Nat×Nat)) (lv':List Nat) (W':PW):Prop:=
 (QU W.pos.off (W.items.length+1) (W.blocks.length+m)∧D'=D∧us'=us∧lv'=lv∧W'=W) ∨
 (¬ QU W.pos.off (W.items.length+1) (W.blocks.length+m)∧QU (Yh W) 1 m∧Emitted B D us W D' us' W'∧lv'=lv) ∨
 (¬ QU W.pos.off (W.items.length+1) (W.blocks.length+m)∧¬ QU (Yh W) 1 m∧lv'=lv.set (QE us) 0 ∧
   ∃ D1 us1 W1,Emitted B D (XE us (QE us) 1) W D1 us1 W1∧Turned B D1 us1 W1 (QE us) D' us' W')
def Yw (i:PItem):Nat:=if i.loaded then 1 else 0
def Added (B:Nat) (D:PDisk) (us:List (Nat×Nat)) (lv:List Nat) (W:PW) (i:PItem) (bs:List UInt8) (D':PDisk) (us':List (Nat×Nat)) (lv':List Nat) (W':PW) (a:Nat):Prop:=
 ∃ W1,Roomed B D us lv W (Yw i) D' us' lv' W1∧W'=⟨W1.pos,W1.items++[i],if i.loaded then W1.blocks++[bs] else W1.blocks⟩ ∧
   a=if i.loaded then JF B W1.pos.seg+KC W1.pos.off 0+W1.blocks.length else 0
theorem Xb (us:List (Nat×Nat)) (s:Nat) (u:Nat×Nat) (hs:s<us.length):JD (us.set s u)+(if us[s].1=0 then 1 else 0)=JD us+(if u.1=0 then 1 else 0):=by
 induction us generalizing s with
 | nil=>simp at hs
 | cons v us ih=>
   cases s with
   | zero=>
     simp only[List.set_cons_zero,JD,List.countP_cons,List.getElem_cons_zero,beq_iff_eq]
     omega
   | succ s=>
     have:=ih s (by simpa using hs);simp only[List.set_cons_succ,JD,List.countP_cons,List.getElem_cons_succ] at this ⊢;omega
theorem JV (us:List (Nat×Nat)) (s x:Nat) (hs:s<us.length):JD (KE us s x)=JD us:=by
 have:=Xb us s ((us.getD s (0,0)).1,x) hs;rw[JH hs] at this;unfold KE;rw[JH hs];simp only at this;omega
theorem XL (us:List (Nat×Nat)) (s x:Nat) (hs:s<us.length):JD (XE us s x)+(if (us.getD s (0,0)).1=0 then 1 else 0)=JD us+(if x=0 then 1 else 0):=by
 have:=Xb us s (x,(us.getD s (0,0)).2) hs;unfold XE;rw[JH hs] at this ⊢;simpa using this
theorem KV (us:List (Nat×Nat)) (h:0<JD us):QE us<us.length∧(us.getD (QE us) (0,0)).1=0:=by
 have h1:QE us<us.length:=by
  unfold QE;rw[List.findIdx_lt_length];obtain⟨u,hu,hp⟩:=List.countP_pos_iff.1 h;exact⟨u,hu,hp⟩
 refine⟨h1,?_⟩;rw[JH h1];have:=List.findIdx_getElem (p:=fun u:Nat×Nat=>u.1 == 0) (xs:=us) (w:=h1);exact beq_iff_eq.1 this
@[simp] theorem length_setStamp (us:List (Nat×Nat)) (s x:Nat):(KE us s x).length=us.length:=by simp[KE]
@[simp] theorem length_setState (us:List (Nat×Nat)) (s x:Nat):(XE us s x).length=us.length:=by simp[XE]
theorem YI (us:List (Nat×Nat)) (s x k:Nat):((KE us s x).getD k (0,0)).1=(us.getD k (0,0)).1:=by
 unfold KE;rw[List.getD_eq_getElem?_getD,List.getElem?_set]
 split
 · rename_i e
   subst e
   split
   · rfl
   · rename_i h
     rw[List.getD_eq_getElem?_getD,List.getElem?_eq_none (by omega)]
 · rw[← List.getD_eq_getElem?_getD]
theorem KG (us:List (Nat×Nat)) (s x k:Nat) (hs:s<us.length):((XE us s x).getD k (0,0)).1=if k=s then x else (us.getD k (0,0)).1:=by
 unfold XE;rw[List.getD_eq_getElem?_getD,List.getElem?_set]
 split
 · rename_i e
   subst e;simp[hs]
 · rename_i e
   rw[if_neg (fun h=>e h.symm),← List.getD_eq_getElem?_getD]
theorem Emitted.facts {B:Nat} {D D':PDisk} {us us':List (Nat×Nat)} {W W':PW} (h:Emitted B D us W D' us' W') (ho:W.Ok) :
 W'.items=[]∧W'.blocks=[]∧W'.pos.seg=W.pos.seg∧W'.pos.mount=W.pos.mount∧W.pos.lsn≤W'.pos.lsn∧W'.pos.lsn≤W.pos.lsn+1∧(W.items=[]→W'.pos.off=W.pos.off)∧(W.items≠[]→W'.pos.off=Yh W)∧D'.acts≤D.acts+8∧(us'=us∨us'=KE us W.pos.seg W.pos.lsn)∧(W'.pos.prev=W.pos.prev∨W'.pos.prev≤4294967295) ∧
 D'.n=D.n∧D'.off=D.off∧D'.fuse=D.fuse∧D'.faults=D.faults:=by
 rcases h with⟨h0,rfl,rfl,rfl⟩ | ⟨h0,D1,W1,rs,sum,hb,hr,hs,rfl,rfl,rfl⟩
 · have hm:=ho.many
   rw[h0] at hm;exact⟨h0,List.eq_nil_of_length_eq_zero hm,rfl,rfl,Nat.le_refl _,Nat.le_succ _,fun _=>rfl,fun h=>absurd h0 h,by omega,.inl rfl,.inl rfl,rfl,rfl,rfl,rfl⟩
 · obtain⟨e1,e2,e3,e4,e5,e6,e7,e8⟩:=hb.same
   have hl:=QK D1 (JF B W.pos.seg+W1.pos.off) (rs++W.blocks.flatten) (1+W.blocks.length);have hm:W.blocks.length≤6:=by rw[ho.many];exact Nat.le_trans (XO _) ho.few
   have hD:D1.n=D.n∧D1.off=D.off∧D1.fuse=D.fuse∧D1.faults=D.faults:=by
    rcases hb with⟨_,rfl,_⟩ | ⟨_,x,_,rfl,_⟩ <;> exact⟨rfl,rfl,rfl,rfl⟩
   refine⟨rfl,rfl,rfl,rfl,by simp,by simp,fun h=>absurd h h0,fun _=>?_,?_,.inr rfl,.inr hs,hl.1.trans hD.1,hl.2.1.trans hD.2.1,hl.2.2.1.trans hD.2.2.1,hl.2.2.2.2.1.trans hD.2.2.2⟩
   · unfold Yh;rw[if_neg h0];unfold KC;simp[e4]
   · rw[hl.2.2.2.1];omega
structure Cap (D:PDisk) (us:List (Nat×Nat)) (W:PW) (k j:Nat):Prop where
 ok:W.Ok
 ul:us.length=8
 seg:W.pos.seg<8
 off:W.pos.off≤23
 opn:(us.getD W.pos.seg (0,0)).1=1
 cs:∃ c s,11*s+c≤k∧max (Yh W) 1≤1+2*c∧7≤JD us+s
 acts:D.acts≤1000+40*j
 lsn:W.pos.lsn≤1+4*j
theorem Cap.free {D:PDisk} {us:List (Nat×Nat)} {W:PW} {k j:Nat} (h:Cap D us W k j) (hk:k≤50) {m:Nat} (hm:m≤1) (hf:¬ QU (Yh W) 1 m):2<JD us:=by
 obtain⟨c,s,h1,h2,h3⟩:=h.cs
 have:22≤Yh W:=by
  unfold QU KC at hf;omega
 omega
theorem Cap.mono {D:PDisk} {us:List (Nat×Nat)} {W:PW} {k k' j j':Nat} (h:Cap D us W k j) (hk:k≤k') (hj:j≤j'):Cap D us W k' j':=by
 obtain⟨c,s,h1,h2,h3⟩:=h.cs;exact⟨h.ok,h.ul,h.seg,h.off,h.opn,⟨c,s,by omega,h2,h3⟩,by have:=h.acts;omega,by have:=h.lsn;omega⟩
theorem YAL (p:PPos):PW.Ok ⟨p,[],[]⟩:=⟨by simp,by simp,by simp,rfl,fun h=>absurd rfl h⟩
theorem PW.Ok.snoc {W:PW} (h:W.Ok) {i:PItem} (hi:i.May) {bs:List UInt8} (hb:i.loaded=true→bs.length=64) (hf:QU W.pos.off (W.items.length+1) (W.blocks.length+Yw i)) :
 PW.Ok ⟨W.pos,W.items++[i],if i.loaded then W.blocks++[bs] else W.blocks⟩:=by
 refine⟨by have:=hf.1;simp;omega,?_,?_,?_,fun _=>?_⟩
 · intro j hj
   rcases List.mem_append.1 hj with hj | hj
   · exact h.may j hj
   · simp at hj;subst hj;exact hi
 · intro b hbm
   simp only at hbm
   split at hbm
   · rename_i hl
     rcases List.mem_append.1 hbm with hj | hj
     · exact h.full b hj
     · simp at hj;subst hj;exact hb hl
   · exact h.full b hbm
 · simp only
   rw[Zg,← h.many]
   split <;> simp
 · have:=hf.2
   unfold Yw at this;simp only
   split <;> rename_i hl <;> simp[hl] at this ⊢ <;> omega
theorem Qk (p:PPos) (is:List PItem) (i:PItem) (bl:List (List UInt8)):Yh ⟨p,is++[i],bl⟩=KC p.off bl.length:=by
 unfold Yh;rw[if_neg (by simp)]
theorem Cap.emitted {B:Nat} {D D':PDisk} {us us':List (Nat×Nat)} {W W':PW} {k j:Nat} (h:Cap D us W k j) (hE:Emitted B D us W D' us' W') :
 W'.Ok∧us'.length=8∧W'.pos.seg=W.pos.seg∧W'.pos.off≤23∧JD us'=JD us∧(us'.getD W'.pos.seg (0,0)).1=1∧max W'.pos.off 1=max (Yh W) 1∧W'.items=[]∧W'.blocks=[]∧D'.acts≤D.acts+8∧W'.pos.lsn≤W.pos.lsn+1:=by
 obtain⟨f1,f2,f3,f4,f5,f6,f7,f8,f9,f10,f11,f12⟩:=hE.facts h.ok
 have hof:W'.pos.off=Yh W:=by
  by_cases h0:W.items=[]
  · rw[f7 h0];unfold Yh;rw[if_pos h0]
  · exact f8 h0
 have hol:Yh W≤23:=by
  unfold Yh
  split
  · exact h.off
  · rename_i h0;exact h.ok.fit h0
 have hul:=h.ul;have hsg:=h.seg
 have hW':W'=⟨W'.pos,[],[]⟩:=by
  obtain⟨p,i,b⟩:=W';simp only at f1 f2;rw[f1,f2]
 refine⟨by rw[hW'];exact YAL _,?_,f3,by omega,?_,?_,by rw[hof],f1,f2,f9,f6⟩
 · rcases f10 with rfl | rfl <;> simp[hul]
 · rcases f10 with rfl | rfl
   · rfl
   · exact JV _ _ _ (by omega)
 · rw[f3]
   rcases f10 with rfl | rfl
   · exact h.opn
   · rw[YI];exact h.opn
theorem Cap.mark {B:Nat} {D D':PDisk} {us us':List (Nat×Nat)} {W W':PW} {k j:Nat} (h:Cap D us W k j) (hE:Emitted B D us W D' us' W') (n:Nat) (hn:n≤20) (D2:PDisk) (hD2:D2.acts≤D'.acts+n):Cap D2 us' W' k (j+1):=by
 obtain⟨e1,e2,e3,e4,e5,e6,e7,e8,e9,e10,e11⟩:=h.emitted hE;obtain⟨c,s,h1,h2,h3⟩:=h.cs;have hsg:=h.seg;refine⟨e1,e2,by omega,e4,e6,⟨c,s,by omega,?_,by omega⟩,by have:=h.acts;omega,by have:=h.lsn;omega⟩;have:Yh W'=W'.pos.off:=by unfold Yh;rw[if_pos e8]
 rw[this];omega
theorem Cap.added {B:Nat} {D D':PDisk} {us us':List (Nat×Nat)} {lv lv':List Nat} {W W':PW} {k j a:Nat} {i:PItem} {bs:List UInt8} (h:Cap D us W k j) (hk:k≤50) (hi:i.May) (hb:i.loaded=true→bs.length=64)
 (hA:Added B D us lv W i bs D' us' lv' W' a):Cap D' us' W' (k+1) (j+1):=by
 obtain⟨W1,hR,rfl,ha⟩:=hA;have hm:Yw i≤1:=by unfold Yw;split <;> omega
 have hbl:∀ b:List (List UInt8),(if i.loaded then b++[bs] else b).length=b.length+Yw i:=by
  intro b;unfold Yw;split <;> simp
 obtain⟨c,s,h1,h2,h3⟩:=h.cs;have hul:=h.ul;have hsg:=h.seg;rcases hR with⟨hf,rfl,rfl,rfl,rfl⟩ | ⟨hnf,hf,hE,rfl⟩ | ⟨hnf,hf,rfl,D1,us1,W2,hE,hT⟩
 · refine⟨h.ok.snoc hi hb hf,hul,hsg,h.off,h.opn,⟨c+1,s,by omega,?_,h3⟩,by have:=h.acts;omega,by have:=h.lsn;simp only;omega⟩
   rw[Qk,hbl]
   by_cases h0:W1.items=[]
   · have hm0:=h.ok.many
     rw[h0] at hm0;have hm1:W1.blocks.length=0:=hm0;rw[hm1];unfold Yh at h2;rw[if_pos h0] at h2;unfold KC;omega
   · unfold Yh at h2
     rw[if_neg h0] at h2;unfold KC at h2 ⊢;omega
 · obtain⟨e1,e2,e3,e4,e5,e6,e7,e8,e9,e10,e11⟩:=h.emitted hE
   have hfit:QU W1.pos.off (W1.items.length+1) (W1.blocks.length+Yw i):=by
    rw[e8,e9];simp only[List.length_nil,Nat.zero_add];refine⟨by omega,?_⟩;have:=hf.2;unfold KC at this ⊢;omega
   refine⟨e1.snoc hi hb hfit,e2,by simp only;omega,by simpa using e4,by simpa using e6,⟨c+1,s,by omega,?_,by omega⟩,by have:=h.acts;omega,by have:=h.lsn;simp only;omega⟩;rw[Qk,hbl,e9];unfold KC;simp only[List.length_nil];omega
 · have hfree:=h.free hk hm hf
   obtain⟨g1,g2⟩:=KV us (by omega)
   have hne:W.pos.seg≠QE us:=by
    intro e;have:=h.opn;rw[e,g2] at this;omega
   have hC:Cap D (XE us (QE us) 1) W (k+11) j:=by
    refine⟨h.ok,by simpa using hul,hsg,h.off,?_,⟨c,s+1,by omega,h2,?_⟩,by have:=h.acts;omega,by have:=h.lsn;omega⟩
    · rw[KG _ _ _ _ g1,if_neg hne];exact h.opn
    · have:=XL us (QE us) 1 g1
      rw[g2] at this;simp at this;omega
   obtain⟨e1,e2,e3,e4,e5,e6,e7,e8,e9,e10,e11⟩:=hC.emitted hE;obtain⟨rs,hd,sum,t1,t2,t3,rfl,rfl,rfl⟩:=hT;have hls:=QK D1 (JF B W2.pos.seg+W2.pos.off) rs 1;have hact:(Ka D1 (JF B W2.pos.seg+W2.pos.off) rs 1).acts=D1.acts+1:=hls.2.2.2.1;have h22:22≤Yh W:=by unfold QU KC at hf;omega
   have hfit:QU 1 (W2.items.length+1) (W2.blocks.length+Yw i):=by
    rw[e8,e9];unfold QU KC;simp;omega
   have hW2:PW.Ok { W2 with pos:=⟨QE us,1,W2.pos.lsn+1,sum,W2.pos.mount⟩ }:=by
    have:({ W2 with pos:=⟨QE us,1,W2.pos.lsn+1,sum,W2.pos.mount⟩ }:PW)=⟨⟨QE us,1,W2.pos.lsn+1,sum,W2.pos.mount⟩,[],[]⟩:=by
     rw[e8,e9]
    rw[this];exact YAL _
   have hs1:W2.pos.seg<us1.length:=by rw[e2,e3];exact hsg
   refine⟨hW2.snoc hi hb hfit,by simpa using e2,by simp only;omega,by simp,?_,⟨1,s+1,by omega,?_,?_⟩,?_,?_⟩
   · simp only
     rw[KG _ _ _ _ (by simpa using hs1),e3,if_neg (fun e=>hne e.symm),YI];rcases hE.facts h.ok with⟨_,_,_,_,_,_,_,_,_,f10,_⟩;rcases f10 with rfl | rfl
     · rw[KG _ _ _ _ g1,if_pos rfl]
     · rw[YI,KG _ _ _ _ g1,if_pos rfl]
   · rw[Qk,hbl,e9]
     unfold KC;simp only[List.length_nil];omega
   · have q:=XL (KE us1 W2.pos.seg W2.pos.lsn) W2.pos.seg 2 (by simpa using hs1)
     rw[YI,e6,JV _ _ _ hs1,e5] at q;have:=XL us (QE us) 1 g1;rw[g2] at this;simp at this q;omega
   · have:=h.acts
     show (Ka D1 (JF B W2.pos.seg+W2.pos.off) rs 1).acts+1≤_;omega
   · have:=h.lsn
     simp only;omega
end
section
open Go.RowKit
def YK (B:Nat) (D:PDisk) (W:PW) (a:Nat):List UInt8:=
 if JF B W.pos.seg+KC W.pos.off 0≤a∧a<JF B W.pos.seg+KC W.pos.off 0+W.blocks.length then W.blocks.getD (a-(JF B W.pos.seg+KC W.pos.off 0)) [] else seg 64 D.now a
structure Lies (B:Nat) (us:List (Nat×Nat)) (W:PW) (a:Nat):Prop where
 lo:6+4*pgs B≤a
 hi:a<198+4*pgs B
 used:(us.getD ((a-(6+4*pgs B)) / 24) (0,0)).1≠0
 here:(a-(6+4*pgs B)) / 24=W.pos.seg→(JF B W.pos.seg+1≤a∧a<JF B W.pos.seg+W.pos.off)∨(JF B W.pos.seg+KC W.pos.off 0≤a∧a<JF B W.pos.seg+KC W.pos.off 0+W.blocks.length)
theorem Zp {B s a:Nat} (h1:JF B s≤a) (h2:a<JF B s+24):(a-(6+4*pgs B)) / 24=s:=by unfold JF at *;omega
theorem Kj (D:PDisk) (k:Nat) (b:List UInt8) (hn:D.now.length=D.n*64) (hk:k<D.n) (hb:b.length=64) (x:Nat):seg 64 (D.write k b).now x=if x=k then b else seg 64 D.now x:=by
 have hle:(k+1)*64≤D.now.length:=by rw[hn];omega
 show seg 64 (laid D.now (k*64) b) x=_
 split
 · rename_i e
   subst e;exact seg_laid_same 64 D.now b x hle hb
 · rename_i e
   exact seg_laid_other 64 D.now b k x hle hb e
theorem Xl (D:PDisk) (k:Nat) (b:List UInt8) (hn:D.now.length=D.n*64) (hk:k<D.n) (hb:b.length=64):(D.write k b).now.length=(D.write k b).n*64:=by
 show (laid D.now (k*64) b).length=D.n*64;unfold laid;simp;omega
theorem Jh (D:PDisk) (a:Nat) (bs:List UInt8) (k:Nat) (hn:D.now.length=D.n*64) (hk:a+k≤D.n) (hb:64*k≤bs.length) :
 (Ka D a bs k).now.length=(Ka D a bs k).n*64∧∀ x,seg 64 (Ka D a bs k).now x=if a≤x∧x<a+k then seg 64 bs (x-a) else seg 64 D.now x:=by
 induction k with
 | zero=>exact⟨hn,fun x=>by rw[if_neg (by omega)];rfl⟩
 | succ k ih=>
   obtain⟨h1,h2⟩:=ih (by omega) (by omega);have hs:=QK D a bs k;rw[ZW];have hl:(seg 64 bs k).length=64:=length_seg 64 bs k (by omega);refine⟨Xl _ _ _ h1 (by rw[hs.1];omega) hl,fun x=>?_⟩;rw[Kj _ _ _ h1 (by rw[hs.1];omega) hl,h2]
   by_cases e:x=a+k
   · subst e
     rw[if_pos rfl,if_pos (by omega)]
     congr 1;omega
   · rw[if_neg e]
     by_cases e2:a≤x∧x<a+k
     · rw[if_pos e2,if_pos (by omega)]
     · rw[if_neg e2,if_neg (by omega)]
theorem XAF (bl:List (List UInt8)) (h:∀ b∈bl,b.length=64) (i:Nat) (hi:i<bl.length):seg 64 bl.flatten i=bl[i]:=by
 induction bl generalizing i with
 | nil=>simp at hi
 | cons b bl ih=>
   have hb:b.length=64:=h b (by simp)
   cases i with
   | zero=>simp[seg,List.take_append_of_le_length,hb,List.take_of_length_le]
   | succ i=>
     have:=ih (fun c hc=>h c (by simp[hc])) i (by simpa using hi);simp only[List.getElem_cons_succ];rw[← this];unfold seg;rw[List.flatten_cons,List.drop_append];rw[List.drop_of_length_le (by omega),List.nil_append]
     congr 2
     omega
theorem Xn (bl:List (List UInt8)) (h:∀ b∈bl,b.length=64):bl.flatten.length=64*bl.length:=by
 induction bl with
 | nil=>rfl
 | cons b bl ih=>
   rw[List.flatten_cons,List.length_append,h b (by simp),ih (fun c hc=>h c (by simp[hc]))];simp;omega
theorem Emitted.reads {B:Nat} {D D':PDisk} {us us':List (Nat×Nat)} {W W':PW} (h:Emitted B D us W D' us' W') (ho:W.Ok) (hn:D.now.length=D.n*64) (hm:D.n=198+4*pgs B) (hs:W.pos.seg<8) (hof:W.pos.off≤23) :
 D'.now.length=D'.n*64∧∀ a,Lies B us W a→Lies B us' W' a∧YK B D' W' a=YK B D W a:=by
 rcases h with⟨h0,rfl,rfl,rfl⟩ | ⟨h0,D1,W1,rs,sum,hb,hr,hsu,rfl,rfl,rfl⟩
 · exact⟨hn,fun a ha=>⟨ha,rfl⟩⟩
 · obtain⟨e1,e2,e3,e4,e5,e6,e7,e8⟩:=hb.same
   have hfit:=ho.fit h0;have hbl:=Xn W.blocks ho.full;have hw1:W1.pos.off=max W.pos.off 1:=e4;have hend:W1.pos.off+1+W.blocks.length≤23:=by unfold KC at hfit;omega
   have hD1:D1.now.length=D1.n*64∧D1.n=D.n∧∀ x,x≠JF B W.pos.seg∨0<W.pos.off→seg 64 D1.now x=seg 64 D.now x:=by
    rcases hb with⟨_,rfl,_⟩ | ⟨hz,x,hx,rfl,_⟩
    · exact⟨hn,rfl,fun _ _=>rfl⟩
    · have hk:JF B W.pos.seg<D.n:=by rw[hm];unfold JF;omega
      refine⟨Xl _ _ _ hn hk hx,rfl,fun y hy=>?_⟩;rw[Kj _ _ _ hn hk hx,if_neg (by omega)]
   obtain⟨d1,d2,d3⟩:=hD1;have hL:=Jh D1 (JF B W.pos.seg+W1.pos.off) (rs++W.blocks.flatten) (1+W.blocks.length) d1 (by rw[d2,hm];unfold JF;omega) (by rw[List.length_append,hr,hbl];omega);refine⟨hL.1,fun a ha=>⟨⟨ha.lo,ha.hi,by rw[YI];exact ha.used,fun e=>?_⟩,?_⟩⟩
   · simp only at e ⊢
     left;rcases ha.here e with h' | h' <;> (try unfold KC at h') <;> omega
   · unfold YK
     simp only[List.length_nil];rw[if_neg (by omega),hL.2]
     by_cases hw:JF B W.pos.seg+KC W.pos.off 0≤a∧a<JF B W.pos.seg+KC W.pos.off 0+W.blocks.length
     · rw[if_pos hw]
       obtain⟨w1,w2⟩:=hw;unfold KC at w1 w2;rw[if_pos (by omega)];have hi:a-(JF B W.pos.seg+KC W.pos.off 0)<W.blocks.length:=by unfold KC;omega
       rw[List.getD_eq_getElem?_getD,List.getElem?_eq_getElem hi];simp only[Option.getD_some];rw[← XAF W.blocks ho.full _ hi];have:a-(JF B W.pos.seg+W1.pos.off)=(a-(JF B W.pos.seg+KC W.pos.off 0))+1:=by unfold KC;omega
       rw[this];unfold seg;rw[List.drop_append,List.drop_of_length_le (by omega),List.nil_append]
       congr 2
       omega
     · rw[if_neg hw]
       have hne:¬ (JF B W.pos.seg+W1.pos.off≤a∧a<JF B W.pos.seg+W1.pos.off+(1+W.blocks.length)):=by
        rintro⟨g1,g2⟩;rcases ha.here (Zp (by omega) (by omega)) with h' | h'
        · omega
        · exact hw h'
       rw[if_neg hne];refine d3 a ?_
       by_cases hz:W.pos.off=0
       · left
         intro e;rcases ha.here (Zp (by omega) (by omega)) with h' | h'
         · omega
         · exact hw h'
       · right;omega
theorem Turned.reads {B:Nat} {D D':PDisk} {us us':List (Nat×Nat)} {W W':PW} {s:Nat} (h:Turned B D us W s D' us' W') (hn:D.now.length=D.n*64) (hm:D.n=198+4*pgs B) (hs:W.pos.seg<8) (hof:W.pos.off≤23) (hof1:1≤W.pos.off) (hss:s<8) (hne:W.pos.seg≠s) (hul:us.length=8) (hb:W.blocks=[]) :
 D'.now.length=D'.n*64∧∀ a,Lies B us W a→(a-(6+4*pgs B)) / 24≠s→Lies B us' W' a∧YK B D' W' a=YK B D W a:=by
 obtain⟨rs,hd,sum,t1,t2,t3,rfl,rfl,rfl⟩:=h;have hL:=Jh D (JF B W.pos.seg+W.pos.off) rs 1 hn (by rw[hm];unfold JF;omega) (by omega);have hls:=QK D (JF B W.pos.seg+W.pos.off) rs 1;have hk:JF B s<(Ka D (JF B W.pos.seg+W.pos.off) rs 1).n:=by rw[hls.1,hm];unfold JF;omega
 refine⟨Xl _ _ _ hL.1 hk t2,fun a ha has=>⟨⟨ha.lo,ha.hi,?_,fun e=>absurd e has⟩,?_⟩⟩
 · rw[KG _ _ _ _ (by simp;omega),YI]
   split
   · omega
   · exact ha.used
 · unfold YK
   rw[hb];simp only[List.length_nil];rw[if_neg (by omega),if_neg (by omega),Kj _ _ _ hL.1 hk t2,hL.2];rw[if_neg (fun e=>has (by subst e;exact Zp (Nat.le_refl _) (by omega)))];rw[if_neg];rintro⟨g1,g2⟩;rcases ha.here (Zp (by omega) (by omega)) with h' | h'
   · omega
   · rw[hb] at h';simp at h';omega
end
section
open Go.RowKit
theorem Zf {B:Nat} {D:PDisk} {us:List (Nat×Nat)} {W:PW} (i:PItem) (bs:List UInt8) (hs:W.pos.seg<8) (hopn:(us.getD W.pos.seg (0,0)).1=1) (hf:QU W.pos.off (W.items.length+1) (W.blocks.length+Yw i)) :
 (∀ x,Lies B us W x→Lies B us ⟨W.pos,W.items++[i],if i.loaded then W.blocks++[bs] else W.blocks⟩ x∧YK B D ⟨W.pos,W.items++[i],if i.loaded then W.blocks++[bs] else W.blocks⟩ x=YK B D W x∧(i.loaded=true→x≠JF B W.pos.seg+KC W.pos.off 0+W.blocks.length)) ∧
 (i.loaded=true→Lies B us ⟨W.pos,W.items++[i],if i.loaded then W.blocks++[bs] else W.blocks⟩ (JF B W.pos.seg+KC W.pos.off 0+W.blocks.length) ∧
   YK B D ⟨W.pos,W.items++[i],if i.loaded then W.blocks++[bs] else W.blocks⟩ (JF B W.pos.seg+KC W.pos.off 0+W.blocks.length)=bs):=by
 by_cases hl:i.loaded=true
 · simp only[hl,if_true]
   have hfit:=hf.2;unfold Yw at hfit;rw[if_pos hl] at hfit
   have hne:∀ x,Lies B us W x→x≠JF B W.pos.seg+KC W.pos.off 0+W.blocks.length:=by
    rintro x hx rfl;rcases hx.here (Zp (by omega) (by unfold KC at hfit ⊢;omega)) with h' | h' <;> (try unfold KC at h') <;> omega
   refine⟨fun x hx=>⟨⟨hx.lo,hx.hi,hx.used,fun e=>?_⟩,?_,fun _=>hne x hx⟩,fun _=>⟨⟨?_,?_,?_,fun _=>.inr ⟨by dsimp only;omega,by simp⟩⟩,?_⟩⟩
   · simp only at e ⊢
     rcases hx.here e with h' | h'
     · exact .inl h'
     · exact .inr ⟨h'.1,by simp;omega⟩
   · have:=hne x hx
     unfold YK;simp only[List.length_append,List.length_singleton]
     by_cases h:JF B W.pos.seg+KC W.pos.off 0≤x∧x<JF B W.pos.seg+KC W.pos.off 0+W.blocks.length
     · rw[if_pos h,if_pos (by omega),List.getD_eq_getElem?_getD,List.getD_eq_getElem?_getD,List.getElem?_append_left (by omega)]
     · rw[if_neg h,if_neg (by omega)]
   · unfold JF KC;omega
   · unfold JF;unfold KC at hfit ⊢;omega
   · rw[Zp (s:=W.pos.seg) (by omega) (by unfold KC at hfit ⊢;omega),hopn];decide
   · unfold YK
     simp only[List.length_append,List.length_singleton];rw[if_pos (by omega),List.getD_eq_getElem?_getD,List.getElem?_append_right (by omega)];rw[show JF B W.pos.seg+KC W.pos.off 0+W.blocks.length-(JF B W.pos.seg+KC W.pos.off 0)-W.blocks.length=0 by omega];rfl
 · simp only[Bool.not_eq_true] at hl
   simp only[hl,Bool.false_eq_true,if_false,false_implies,and_true];exact fun x hx=>⟨⟨hx.lo,hx.hi,hx.used,hx.here⟩,rfl⟩
theorem Added.reads {B:Nat} {D D':PDisk} {us us':List (Nat×Nat)} {lv lv':List Nat} {W W':PW} {k j a:Nat} {i:PItem} {bs:List UInt8} (hA:Added B D us lv W i bs D' us' lv' W' a) (h:Cap D us W k j) (hk:k≤50)
 (hn:D.now.length=D.n*64) (hm:D.n=198+4*pgs B) :
 D'.now.length=D'.n*64∧D'.n=D.n∧D'.faults=D.faults∧(∀ x,Lies B us W x→Lies B us' W' x∧YK B D' W' x=YK B D W x∧(i.loaded=true→x≠a))∧(i.loaded=true→Lies B us' W' a∧YK B D' W' a=bs):=by
 obtain⟨W1,hR,rfl,ha⟩:=hA;have hb1:Yw i≤1:=by unfold Yw;split <;> omega
 have hul:=h.ul;have hsg:=h.seg;have hae:i.loaded=true→a=JF B W1.pos.seg+KC W1.pos.off 0+W1.blocks.length:=fun hl=>by rw[ha,if_pos hl]
 rcases hR with⟨hf,rfl,rfl,rfl,rfl⟩ | ⟨hnf,hf,hE,rfl⟩ | ⟨hnf,hf,rfl,D1,us1,W2,hE,hT⟩
 · obtain⟨r1,r2⟩:=Zf (D:=D') i bs hsg h.opn hf
   refine⟨hn,rfl,rfl,fun x hx=>?_,fun hl=>by rw[hae hl];exact r2 hl⟩;obtain⟨q1,q2,q3⟩:=r1 x hx;exact⟨q1,q2,fun hl=>by rw[hae hl];exact q3 hl⟩
 · obtain⟨e1,e2,e3,e4,e5,e6,e7,e8,e9,e10,e11⟩:=h.emitted hE
   obtain⟨r1,r2⟩:=hE.reads h.ok hn hm hsg h.off;obtain⟨_,_,_,_,_,_,_,_,_,_,_,f1,_,_,f4⟩:=hE.facts h.ok
   have hfit:QU W1.pos.off (W1.items.length+1) (W1.blocks.length+Yw i):=by
    rw[e8,e9];refine⟨by simp,?_⟩;have:=hf.2;simp only[List.length_nil,Nat.zero_add];unfold KC at this ⊢;omega
   obtain⟨s1,s2⟩:=Zf (B:=B) (D:=D') i bs (by omega) e6 hfit;refine⟨r1,f1,f4,fun x hx=>?_,fun hl=>by rw[hae hl];exact s2 hl⟩;obtain⟨q1,q2⟩:=r2 x hx;obtain⟨q3,q4,q5⟩:=s1 x q1;exact⟨q3,q4.trans q2,fun hl=>by rw[hae hl];exact q5 hl⟩
 · have hfree:=h.free hk hb1 hf
   obtain⟨g1,g2⟩:=KV us (by omega)
   have hne:W.pos.seg≠QE us:=by
    intro e;have:=h.opn;rw[e,g2] at this;omega
   have hC:Cap D (XE us (QE us) 1) W (k+11) j:=by
    obtain⟨c,s,h1,h2,h3⟩:=h.cs;refine⟨h.ok,by simpa using hul,hsg,h.off,?_,⟨c,s+1,by omega,h2,?_⟩,h.acts,h.lsn⟩
    · rw[KG _ _ _ _ g1,if_neg hne];exact h.opn
    · have:=XL us (QE us) 1 g1
      rw[g2] at this;simp at this;omega
   obtain⟨e1,e2,e3,e4,e5,e6,e7,e8,e9,e10,e11⟩:=hC.emitted hE;obtain⟨r1,r2⟩:=hE.reads hC.ok hn hm hsg h.off;obtain⟨_,_,_,_,_,_,_,_,_,_,_,f1,_,_,f4⟩:=hE.facts h.ok;have h22:22≤Yh W:=by unfold QU KC at hf;omega
   have hT0:=hT;obtain⟨t1,t2⟩:=hT.reads r1 (f1.trans hm) (by omega) e4 (by omega) (by omega) (by omega) e2 e9;obtain⟨rs,hd,sum,u1,u2,u3,hD',hus,hW1⟩:=hT0;have hls:=QK D1 (JF B W2.pos.seg+W2.pos.off) rs 1
   have hfit:QU W1.pos.off (W1.items.length+1) (W1.blocks.length+Yw i):=by
    rw[hW1];simp only[e8,e9];unfold QU KC;simp;omega
   have hsg1:W1.pos.seg=QE us:=by rw[hW1]
   have hop1:(us'.getD W1.pos.seg (0,0)).1=1:=by
    rw[hsg1,hus,KG _ _ _ _ (by simp;omega),e3,if_neg (fun e=>hne e.symm),YI];rcases hE.facts h.ok with⟨_,_,_,_,_,_,_,_,_,f10,_⟩;rcases f10 with rfl | rfl
    · rw[KG _ _ _ _ g1,if_pos rfl]
    · rw[YI,KG _ _ _ _ g1,if_pos rfl]
   obtain⟨s1,s2⟩:=Zf (B:=B) (D:=D') i bs (by omega) hop1 hfit;have hDn:D'.n=D.n:=by rw[hD'];exact hls.1.trans f1
   have hDf:D'.faults=D.faults:=by rw[hD'];exact hls.2.2.2.2.1.trans f4
   refine⟨t1,hDn,hDf,fun x hx=>?_,fun hl=>by rw[hae hl];exact s2 hl⟩;have hxs:(x-(6+4*pgs B)) / 24≠QE us:=fun e=>hx.used (by rw[e];exact g2);have hx':Lies B (XE us (QE us) 1) W x:=⟨hx.lo,hx.hi,by rw[KG _ _ _ _ g1,if_neg hxs];exact hx.used,hx.here⟩;obtain⟨q1,q2⟩:=r2 x hx';obtain⟨q3,q4⟩:=t2 x q1 hxs;obtain⟨q5,q6,q7⟩:=s1 x q3;exact⟨q5,q6.trans (q4.trans q2),fun hl=>by rw[hae hl];exact q7 hl⟩
end
section
open Go.RowKit Go.Shelf
theorem LogIs.ul {w:World} {base d g t p:Nat} {Fd Ft Fw:List Nat} {B:Nat} {D:PDisk} {us:List (Nat×Nat)} {lv:List Nat} {W:PW} (h:LogIs w base d g t p Fd Ft Fw B D us lv W):us.length=8:=by obtain⟨L,V,ht⟩:=h.tab;exact ht.ulen
end
section
open Go.RowKit Go.Shelf
theorem Roomed.few {B:Nat} {D D':PDisk} {us us':List (Nat×Nat)} {lv lv':List Nat} {W W':PW} {m:Nat} (h:Roomed B D us lv W m D' us' lv' W') (ho:W.Ok):W'.items.length≤6∧W'.blocks.length≤6:=by
 have h6:W.blocks.length≤6:=by rw[ho.many];exact Nat.le_trans (XO _) ho.few
 rcases h with⟨_,_,_,_,rfl⟩ | ⟨_,_,hE,_⟩ | ⟨_,_,_,D1,us1,W1,hE,hT⟩
 · exact⟨ho.few,h6⟩
 · obtain⟨f1,f2,_⟩:=hE.facts ho
   rw[f1,f2];simp
 · obtain⟨f1,f2,_⟩:=hE.facts ho
   obtain⟨_,_,_,_,_,_,_,_,rfl⟩:=hT;simp only[f1,f2];simp
end
end Go.Proofs.YtkonbpfbjiepfaaGreat
