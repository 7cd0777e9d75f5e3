/- Lemmas of the proof, with their conditions. -/
import Derived.Test.YthgphmfipnjllaaGreatV36
namespace Go.Proofs.YthgphmfipnjllaaGreat
set_option linter.unusedSimpArgs false
set_option linter.unusedVariables false
set_option maxHeartbeats 1000000
set_option maxRecDepth 20000
section
open Go.RowKit
def Jo (a:Nat):List PItem→List (Nat×Nat)
 | []=>[]
 | i :: is=>if i.loaded then (i.b,a+1) :: Jo (a+1) is else Jo a is
def QO (B:Nat):List (PPos×PRec)→List (Nat×Nat)
 | []=>[]
 | x :: L=>Jo (YB B x.1.seg+x.1.off) x.2.items++QO B L
theorem Ku (I:PImage) (a:Nat) (is:List PItem):YL I a is=(Jo a is).filter (fun x=>VP I x.1 x.2):=by
 induction is generalizing a with
 | nil=>rfl
 | cons i is ih=>
   unfold YL Jo
   cases i.loaded
   · simp[ih]
   · simp only[if_true,List.filter_cons,ih]
     cases VP I i.b (a+1) <;> simp
theorem ZZ (I:PImage) (B:Nat) (L:List (PPos×PRec)):VK I B L=(QO B L).filter (fun x=>VP I x.1 x.2):=by
 induction L with
 | nil=>rfl
 | cons x L ih=>simp only[VK,QO,List.filter_append,ih,Ku]
theorem Qg (B:Nat) (L M:List (PPos×PRec)):QO B (L++M)=QO B L++QO B M:=by
 induction L with
 | nil=>rfl
 | cons x L ih=>simp only[List.cons_append,QO,ih,List.append_assoc]
theorem VAB (a:Nat) (is:List PItem) (i:PItem):Jo a (is++[i])=Jo a is++(if i.loaded then [(i.b,a+YE is+1)] else []):=by
 induction is generalizing a with
 | nil=>cases h:i.loaded <;> simp[Jo,YE,h]
 | cons j is ih=>
   have hl:YE (j :: is)=YE is+if j.loaded then 1 else 0:=by
    unfold YE
    cases h:j.loaded <;> simp[h]
   unfold Jo
   simp only[List.cons_append]
   cases hj:j.loaded
   · simp only[hj,Bool.false_eq_true,if_false] at hl ⊢
     rw[ih,hl];rfl
   · simp only[hj,if_true] at hl ⊢
     rw[ih,hl,List.cons_append,show a+1+YE is=a+(YE is+1) by omega]
theorem Xs (a:Nat) (is:List PItem):∀ x∈Jo a is,a+1≤x.2∧x.2<a+1+YE is:=by
 induction is generalizing a with
 | nil=>simp[Jo]
 | cons j is ih=>
   have hl:YE (j :: is)=YE is+if j.loaded then 1 else 0:=by
    unfold YE
    cases h:j.loaded <;> simp[h]
   unfold Jo
   intro x hx
   cases hj:j.loaded
   · simp only[hj,Bool.false_eq_true,if_false] at hl hx
     have:=ih _ x hx
     omega
   · simp only[hj,if_true,List.mem_cons] at hl hx
     rcases hx with rfl | hx
     · simp only;omega
     · have:=ih _ x hx
       omega
def Chn (D:PDisk) (B:Nat):PPos→List PRec→PPos→Prop
 | p,[],q=>p=q
 | p,R :: Rs,q=>LiesR D B p R∧KL R.items=false∧Chn D B (R.behind p) Rs q
theorem Chn.ends {D:PDisk} {B:Nat} {p q:PPos} {Rs:List PRec} (h:Chn D B p Rs q):p.seg=q.seg∧p.off+Rs.length≤q.off∧p.mount≤q.mount:=by
 induction Rs generalizing p with
 | nil=>obtain rfl:p=q:=h;exact⟨rfl,by simp,Nat.le_refl _⟩
 | cons R Rs ih=>
   obtain⟨h1,h2,h3⟩:=h
   obtain⟨e1,e2,e3⟩:=ih h3
   have:=h1.mount
   exact⟨e1,by simp only[PRec.behind,List.length_cons] at e2 ⊢;omega,by simp only[PRec.behind] at e3;omega⟩
theorem Chn.snoc {D:PDisk} {B:Nat} {p q:PPos} {Rs:List PRec} {R:PRec} (h:Chn D B p Rs q) (hR:LiesR D B q R) (hn:KL R.items=false):Chn D B p (Rs++[R]) (R.behind q):=by
 induction Rs generalizing p with
 | nil=>obtain rfl:p=q:=h;exact⟨hR,hn,rfl⟩
 | cons S Rs ih=>obtain⟨h1,h2,h3⟩:=h;exact⟨h1,h2,ih h3⟩
theorem LiesR.keepD {D D':PDisk} {B:Nat} {p:PPos} {R:PRec} (h:LiesR D B p R) (hs:∀ x,YB B p.seg+p.off≤x→x<YB B p.seg+p.off+(1+R.blocks.length)→seg 64 D'.now x=seg 64 D.now x):LiesR D' B p R:=
 ⟨h.may,h.lsn,h.prev,h.mount,h.room,fun k hk=>by rw[hs _ (by omega) (by omega)];exact h.bytes k hk⟩
theorem Chn.keepD {D D':PDisk} {B:Nat} {p q:PPos} {Rs:List PRec} (h:Chn D B p Rs q) (hs:∀ x,YB B p.seg+p.off≤x→x<YB B p.seg+q.off→seg 64 D'.now x=seg 64 D.now x):Chn D' B p Rs q:=by
 induction Rs generalizing p with
 | nil=>exact h
 | cons R Rs ih=>
   obtain⟨h1,h2,h3⟩:=h
   have he:=h3.ends
   simp only[PRec.behind] at he
   exact⟨h1.keepD (fun x a b=>hs x a (by omega)),h2,ih h3 (fun x a b=>hs x (by simp only[PRec.behind] at a;omega) (by simp only[PRec.behind] at b;omega))⟩
theorem Chn.chained {D:PDisk} {B:Nat} {p q:PPos} {Rs:List PRec} (h:Chn D B p Rs q) (hz:q.off=24∨q.off<24∧Stale D (YB B q.seg+q.off) (24-q.off) q.lsn):Qf D B p Rs:=by
 induction Rs generalizing p with
 | nil=>obtain rfl:p=q:=h;exact hz
 | cons R Rs ih=>obtain⟨h1,h2,h3⟩:=h;exact⟨h1,.inr ⟨h2,ih h3⟩⟩
theorem Chn.last {D:PDisk} {B:Nat} {p q:PPos} {Rs:List PRec} {R:PRec} (h:Chn D B p Rs q) (hR:LiesR D B q R) (hn:KL R.items=true):Qf D B p (Rs++[R]):=by
 induction Rs generalizing p with
 | nil=>obtain rfl:p=q:=h;exact⟨hR,.inl ⟨hn,rfl⟩⟩
 | cons S Rs ih=>obtain⟨h1,h2,h3⟩:=h;exact⟨h1,.inr ⟨h2,ih h3⟩⟩
theorem JU {D:PDisk} {B:Nat} {p q:PPos} {Rs:List PRec} (h:Chn D B p Rs q) (R:PRec):placed p (Rs++[R])=placed p Rs++[(q,R)]:=by
 induction Rs generalizing p with
 | nil=>obtain rfl:p=q:=h;rfl
 | cons S Rs ih=>obtain⟨h1,h2,h3⟩:=h;simp only[List.cons_append,placed,ih h3]
theorem Chn.place {D:PDisk} {B:Nat} {p q:PPos} {Rs:List PRec} (h:Chn D B p Rs q) (x:PPos×PRec) (hx:x∈placed p Rs):x.1.seg=q.seg∧p.off≤x.1.off∧LiesR D B x.1 x.2∧x.1.off+(1+x.2.blocks.length)≤q.off∧x.2∈Rs:=by
 induction Rs generalizing p with
 | nil=>simp[placed] at hx
 | cons S Rs ih=>
   obtain⟨h1,h2,h3⟩:=h
   simp only[placed,List.mem_cons] at hx
   have he:=h3.ends
   simp only[PRec.behind] at he
   rcases hx with rfl | hx
   · exact⟨he.1,Nat.le_refl _,h1,by simp only;omega,by simp⟩
   · obtain⟨a,b,c,d,e⟩:=ih h3 hx
     simp only[PRec.behind] at b
     exact⟨a,by omega,c,d,by simp[e]⟩
structure HeadOn (D:PDisk) (B s:Nat) (h:PPos):Prop where
 seg:h.seg=s
 off:h.off=1
 mount:1≤h.mount∧h.mount≤2147483647
 lsn:1≤h.lsn∧h.lsn≤2147483647
 prev:h.prev≤4294967295
 bytes:Go.Proofs.YthgphmfipnjllaaGreat.seg 64 D.now (YB B s)=Yp s h.mount h.lsn h.prev
theorem HeadOn.keepD {D D':PDisk} {B s:Nat} {h:PPos} (hh:HeadOn D B s h) (hs:Go.Proofs.YthgphmfipnjllaaGreat.seg 64 D'.now (YB B s)=Go.Proofs.YthgphmfipnjllaaGreat.seg 64 D.now (YB B s)):HeadOn D' B s h:=
 ⟨hh.seg,hh.off,hh.mount,hh.lsn,hh.prev,hs.trans hh.bytes⟩
def VBB (D:PDisk) (B:Nat) (h:PPos) (l:List PRec) (L:Nat):Prop:=∃ Rs x q,l=Rs++[x]∧Chn D B h Rs q∧LiesR D B q x∧KL x.items=true∧∀ k,q.off+(1+x.blocks.length)≤k→k<24→Stale D (YB B q.seg+k) (24-k) L
structure LogOn (B:Nat) (D:PDisk) (st:Nat→Nat) (W:PW) (H:Nat→PPos) (R:Nat→List PRec):Prop where
 free:∀ s,s<8→st s=0→∀ k,k<24→Stale D (YB B s+k) (24-k) W.pos.lsn
 here:st W.pos.seg≠0
 pos:W.pos.Ok
 off0:W.pos.off=0→R W.pos.seg=[]∧seg 64 D.now (YB B W.pos.seg)=List.replicate 64 0
 head:1≤W.pos.off→HeadOn D B W.pos.seg (H W.pos.seg)∧Chn D B (H W.pos.seg) (R W.pos.seg) W.pos
 rest:∀ k,W.pos.off≤k→k<24→Stale D (YB B W.pos.seg+k) (24-k) W.pos.lsn
 full:∀ s,s<8→st s≠0→s≠W.pos.seg→HeadOn D B s (H s)∧VBB D B (H s) (R s) W.pos.lsn
 own:∀ s,s<8→∀ x∈R s,∀ i∈x.items,i.loaded=true→i.b<B
 wait:∀ i∈W.items,i.k≠7∧(i.loaded=true→i.b<B)
 low:∀ s,s<8→∀ x∈R s,x.lsn<W.pos.lsn
 blk:∀ s,s<8→∀ x∈R s,∀ b∈x.blocks,Vp b
 wblk:∀ b∈W.blocks,Vp b
def RefTold (B:Nat) (st:Nat→Nat) (W:PW) (H:Nat→PPos) (R:Nat→List PRec) (b a:Nat):Prop:=
 (b,a)∈Jo (YB B W.pos.seg+KB W.pos.off 0-1) W.items∨∃ s,s<8∧st s≠0∧(b,a)∈QO B (placed (H s) (R s))
theorem LogOn.congr {B:Nat} {D D':PDisk} {st:Nat→Nat} {W:PW} {H:Nat→PPos} {R:Nat→List PRec} (h:LogOn B D st W H R) (hs:∀ x,6+4*pgs B≤x→seg 64 D'.now x=seg 64 D.now x):LogOn B D' st W H R:=by
 have hs':∀ s x,YB B s≤x→seg 64 D'.now x=seg 64 D.now x:=fun s x hx=>hs x (by unfold YB at hx;omega)
 refine⟨fun s a b k c=>(h.free s a b k c).keepD (by omega) (Nat.le_refl _) (fun y h1 _=>hs' s y (by omega)),h.here,h.pos,fun a=>⟨(h.off0 a).1,by rw[hs' W.pos.seg _ (Nat.le_refl _)];exact(h.off0 a).2⟩,fun a=>?_,fun k a b=>(h.rest k a b).keepD (by omega) (Nat.le_refl _) (fun y h1 _=>hs' W.pos.seg y (by omega)),fun s a b c=>?_,h.own,h.wait,h.low,h.blk,h.wblk⟩
 · obtain⟨h1,h2⟩:=h.head a
   have e:=h1.seg
   exact⟨h1.keepD (hs' _ _ (Nat.le_refl _)),h2.keepD (fun x a b=>hs' (H W.pos.seg).seg x (by omega))⟩
 · obtain⟨h1,Rs,x,q,h2,h3,h4,h5,h6⟩:=h.full s a b c
   exact⟨h1.keepD (hs' _ _ (Nat.le_refl _)),Rs,x,q,h2,h3.keepD (fun x a b=>hs' (H s).seg x (by omega)),h4.keepD (fun x a b=>hs' q.seg x (by omega)),h5,fun k k1 k2=>(h6 k k1 k2).keepD (by omega) (Nat.le_refl _) (fun y h1 _=>hs' q.seg y (by omega))⟩
theorem LogOn.emitted {B:Nat} {D D':PDisk} {us us':List (Nat×Nat)} {W W':PW} {st:Nat→Nat} {H:Nat→PPos} {R:Nat→List PRec} (h:LogOn B D st W H R) (hE:Emitted B D us W D' us' W') (ho:W.Ok)
 (hn:D.now.length=D.n*64) (hm:D.n=198+4*pgs B) (hof:W.pos.off≤23) (hlsn:W.pos.lsn<2147483647) :
 ∃ H' R',LogOn B D' st W' H' R'∧∀ b a,RefTold B st W H R b a→RefTold B st W' H' R' b a:=by
 rcases hE with⟨h0,rfl,rfl,rfl⟩ | ⟨h0,D1,W1,rs,sum,hb,hr,hsu,rfl,rfl,rfl⟩
 · exact⟨H,R,h,fun _ _ h=>h⟩
 obtain⟨b1,b2,b3,b4,b5⟩:=h.pos
 obtain⟨e1,e2,e3,e4,e5,e6,e7,e8⟩:=hb.same
 have hfit:=ho.fit h0
 have hbl:=JZ W.blocks ho.full
 obtain⟨o,hoo⟩:∃ o,o=max W.pos.off 1:=⟨_,rfl⟩
 rw[← hoo] at e4
 rw[e4]
 obtain⟨m,hmm⟩:∃ m,m=W.blocks.length:=⟨_,rfl⟩
 have hend:o+1+m≤23:=by unfold KB at hfit;omega
 -- the disk with a head
 have hD1:D1.now.length=D1.n*64∧D1.n=D.n∧∀ x,(x≠YB B W.pos.seg∨0<W.pos.off)→seg 64 D1.now x=seg 64 D.now x:=by
  rcases hb with⟨_,rfl,_⟩ | ⟨hz,x,hx,rfl,_⟩
  · exact⟨hn,rfl,fun _ _=>rfl⟩
  · have hk:YB B W.pos.seg<D.n:=by rw[hm];unfold YB;omega
    refine⟨Xc _ _ _ hn hk hx.len,rfl,fun y hy=>?_⟩
    rw[YR _ _ _ hn hk hx.len,if_neg (by omega)]
 obtain⟨d1,d2,d3⟩:=hD1
 have hhead:∃ h',(1≤W.pos.off→h'=H W.pos.seg)∧HeadOn D1 B W.pos.seg h'∧Chn D1 B h' (R W.pos.seg) ⟨W.pos.seg,o,W.pos.lsn,W.pos.prev,W.pos.mount⟩:=by
  rcases hb with⟨hp,rfl,_⟩ | ⟨hz,x,hx,rfl,_⟩
  · obtain⟨h1,h2⟩:=h.head hp
    exact⟨_,fun _=>rfl,h1,by rw[hoo,Nat.max_eq_left hp];exact h2⟩
  · have hk:YB B W.pos.seg<D.n:=by rw[hm];unfold YB;omega
    refine⟨⟨W.pos.seg,1,W.pos.lsn,W.pos.prev,W.pos.mount⟩,fun h=>by omega,⟨rfl,rfl,b5,b3,b4,?_⟩,?_⟩
    · rw[YR _ _ _ hn hk hx.len,if_pos rfl,hx.is,Zu]
    · rw[(h.off0 hz).1]
      show _=_
      rw[hoo,hz];rfl
 obtain⟨h',hh0,hh1,hh2⟩:=hhead
 have hL:=Yc D1 (YB B W.pos.seg+o) (rs++W.blocks.flatten) (1+m) d1 (by rw[d2,hm];unfold YB;omega) (by rw[List.length_append,hr.len,hbl];omega)
 rw[← hmm]
 have hnew:∀ x,¬ (YB B W.pos.seg+o≤x∧x<YB B W.pos.seg+o+(1+m))→seg 64 (YW D1 (YB B W.pos.seg+o) (rs++W.blocks.flatten) (1+m)).now x=seg 64 D1.now x:=fun x hx=>by rw[hL.2,if_neg hx]
 have hnewD:∀ x,(x<YB B W.pos.seg∨YB B W.pos.seg+24≤x)→seg 64 (YW D1 (YB B W.pos.seg+o) (rs++W.blocks.flatten) (1+m)).now x=seg 64 D.now x:=fun x hx=>by
  rw[hnew x (by omega),d3 x (.inl (by omega))]
 obtain⟨X,hX⟩:∃ X:PRec,X=⟨W.pos.mount,W.pos.lsn,W.pos.prev,W.items,W.blocks⟩:=⟨_,rfl⟩
 have hmay:X.May:=by
  rw[hX]
  exact⟨b5,b3,b4,by rcases hi:W.items with _ | _ <;> simp_all,ho.few,ho.may,ho.many,ho.full⟩
 have hXL:LiesR (YW D1 (YB B W.pos.seg+o) (rs++W.blocks.flatten) (1+m)) B ⟨W.pos.seg,o,W.pos.lsn,W.pos.prev,W.pos.mount⟩ X:=by
  refine⟨hmay,by rw[hX],by rw[hX],by rw[hX];exact Nat.le_refl _,by rw[hX];simp only;omega,fun k hk=>?_⟩
  have hk':k<1+m:=by rw[hX] at hk;simp only at hk;omega
  rw[hL.2,if_pos (by simp only;omega)]
  simp only
  rw[show YB B W.pos.seg+o+k-(YB B W.pos.seg+o)=k by omega]
  rw[hX]
  unfold PRec.bytes
  simp only
  rw[hr.eq]
 have hXn:KL X.items=false:=by
  rw[hX]
  unfold KL JL
  rw[decide_eq_false]
  intro hlt
  have:=List.findIdx_getElem (p:=fun i:PItem=>i.k == 7) (xs:=W.items) (w:=hlt)
  exact(h.wait _ (List.getElem_mem hlt)).1 (by simpa using this)
 have hch:=(hh2.keepD (D':=YW D1 (YB B W.pos.seg+o) (rs++W.blocks.flatten) (1+m)) (fun x ha hb'=>hnew x (by rw[hh1.seg] at hb';simp only at hb';omega))).snoc hXL hXn
 have hbeh:X.behind ⟨W.pos.seg,o,W.pos.lsn,W.pos.prev,W.pos.mount⟩=⟨W.pos.seg,o+1+m,W.pos.lsn+1,sum,W.pos.mount⟩:=by
  rw[hX]
  unfold PRec.behind PRec.sum
  simp only
  rw[hr.sm,Nat.add_assoc,hmm]
 rw[hbeh] at hch
 refine⟨fun s=>if s=W.pos.seg then h' else H s,fun s=>if s=W.pos.seg then R W.pos.seg++[X] else R s,⟨?_,h.here,⟨b1,?_,?_,hsu,b5⟩,?_,?_,?_,?_,?_,by simp,?_,?_,by simp⟩,?_⟩
 · intro s hs h0 k hk
   have:s≠W.pos.seg:=fun e=>h.here (e ▸ h0)
   exact(h.free s hs h0 k hk).keepD (by omega) (by simp) (fun y h1 h2=>hnewD y (by unfold YB at *;omega))
 · simp only;omega
 · simp only;omega
 · intro e;simp only at e;omega
 · intro _
   simp only[if_true]
   exact⟨hh1.keepD (hnew _ (by omega)),hch⟩
 · intro k hk1 hk2
   try simp only at hk1 ⊢
   exact(h.rest k (by omega) hk2).keepD (by omega) (by simp) (fun y h1 h2=>by rw[hnew _ (by omega),d3 _ (.inl (by omega))])
 · intro s hs h0 hne
   try simp only at hne
   simp only[if_neg hne]
   obtain⟨f1,Rs,x,q,f2,f3,f4,f5,f6⟩:=h.full s hs h0 hne
   have hq:=f3.ends
   have hro:=f4.room
   rw[f1.seg] at hq
   exact⟨f1.keepD (hnewD _ (by unfold YB;omega)),Rs,x,q,f2,f3.keepD (fun y ha hb'=>hnewD _ (by rw[f1.seg] at ha hb';unfold YB at *;omega)),f4.keepD (fun y ha hb'=>hnewD _ (by rw[← hq.1] at ha hb';unfold YB at *;omega)),f5,fun k k1 k2=>(f6 k k1 k2).keepD (by omega) (by simp) (fun y h1 h2=>hnewD y (by rw[← hq.1] at h1 h2;unfold YB at *;omega))⟩
 · intro s hs x hx i hi hl
   try simp only at hx
   split at hx
   · rename_i e
     rcases List.mem_append.1 hx with hx | hx
     · exact h.own _ (by omega) x hx i hi hl
     · simp at hx
       subst hx
       rw[hX] at hi
       exact(h.wait i hi).2 hl
   · exact h.own s hs x hx i hi hl
 · intro s hs x hx
   try simp only at hx ⊢
   split at hx
   · rcases List.mem_append.1 hx with hx | hx
     · have:=h.low _ (by omega) x hx;omega
     · simp at hx
       rw[hx,hX]
       simp only;omega
   · have:=h.low s hs x hx;omega
 · intro s hs x hx b hb'
   try simp only at hx
   split at hx
   · rcases List.mem_append.1 hx with hx | hx
     · exact h.blk _ (by omega) x hx b hb'
     · simp at hx
       rw[hx,hX] at hb'
       exact h.wblk b hb'
   · exact h.blk s hs x hx b hb'
 · intro b a hab
   right
   rcases hab with hab | ⟨s,hs,h0,hab⟩
   · refine⟨W.pos.seg,by omega,h.here,?_⟩
     simp only[if_true]
     rw[JU hh2 X,Qg]
     refine List.mem_append_right _ ?_
     unfold QO QO
     rw[hX]
     simp only[List.append_nil]
     rwa [show YB B W.pos.seg+KB W.pos.off 0-1=YB B W.pos.seg+o by unfold KB;omega] at hab
   · refine⟨s,hs,h0,?_⟩
     try simp only
     split
     · rename_i e
       subst e
       rw[JU hh2 X,Qg]
       refine List.mem_append_left _ ?_
       by_cases hp:1≤W.pos.off
       · rw[hh0 hp];exact hab
       · rw[(h.off0 (by omega)).1] at hab
         simp[placed,QO] at hab
     · exact hab
theorem LogOn.st {B:Nat} {D:PDisk} {st st':Nat→Nat} {W:PW} {H:Nat→PPos} {R:Nat→List PRec} (h:LogOn B D st W H R) (e:∀ s,s<8→(st' s=0↔st s=0)):LogOn B D st' W H R:=by
 have h8:=h.pos.1
 exact⟨fun s hs h0=>h.free s hs ((e s hs).1 h0),fun h0=>h.here ((e _ (by omega)).1 h0),h.pos,h.off0,h.head,h.rest,fun s hs h0=>h.full s hs (fun h1=>h0 ((e s hs).2 h1)),h.own,h.wait,h.low,h.blk,h.wblk⟩
theorem RefTold.st {B:Nat} {st st':Nat→Nat} {W:PW} {H:Nat→PPos} {R:Nat→List PRec} {b a:Nat} (h:RefTold B st W H R b a) (e:∀ s,s<8→st s≠0→st' s≠0):RefTold B st' W H R b a:=
 h.imp id (fun⟨s,hs,h0,h1⟩=>⟨s,hs,e s hs h0,h1⟩)
theorem LogOn.turned {B:Nat} {D D':PDisk} {us us':List (Nat×Nat)} {W W':PW} {s:Nat} {st:Nat→Nat} {H:Nat→PPos} {R:Nat→List PRec} (h:LogOn B D st W H R) (hT:Turned B D us W s D' us' W') (hs:s<8) (hs0:st s=0) (hW:W.items=[]) (hWb:W.blocks=[])
 (hn:D.now.length=D.n*64) (hm:D.n=198+4*pgs B) (ho1:1≤W.pos.off) (ho2:W.pos.off≤23) (hlsn:W.pos.lsn<2147483647) :
 ∃ H' R',LogOn B D' (fun k=>if k=s then 1 else st k) W' H' R'∧∀ b a,RefTold B st W H R b a→RefTold B (fun k=>if k=s then 1 else st k) W' H' R' b a:=by
 obtain⟨rs,hd,sum,hr,hh,hsu,rfl,-,rfl⟩:=hT
 obtain⟨b1,b2,b3,b4,b5⟩:=h.pos
 have hne:s≠W.pos.seg:=fun e=>h.here (e ▸ hs0)
 have hL:=Yc D (YB B W.pos.seg+W.pos.off) rs 1 hn (by rw[hm];unfold YB;omega) (by rw[hr.len];omega)
 have hls:=KJ D (YB B W.pos.seg+W.pos.off) rs 1
 have hk:YB B s<(YW D (YB B W.pos.seg+W.pos.off) rs 1).n:=by rw[hls.1,hm];unfold YB;omega
 have hnow:∀ x,seg 64 ((YW D (YB B W.pos.seg+W.pos.off) rs 1).write (YB B s) hd).now x=if x=YB B s then hd else if x=YB B W.pos.seg+W.pos.off then rs else seg 64 D.now x:=fun x=>by
  rw[YR _ _ _ hL.1 hk hh.len,hL.2]
  split
  · rfl
  · split
    · rename_i e
      rw[if_pos (by omega),show x-(YB B W.pos.seg+W.pos.off)=0 by omega]
      unfold seg
      rw[Nat.zero_mul,List.drop_zero,List.take_of_length_le (by rw[hr.len];omega)]
    · rw[if_neg (by omega)]
 have hoth:∀ x,x≠YB B s→x≠YB B W.pos.seg+W.pos.off→seg 64 ((YW D (YB B W.pos.seg+W.pos.off) rs 1).write (YB B s) hd).now x=seg 64 D.now x:=fun x h1 h2=>by rw[hnow,if_neg h1,if_neg h2]
 obtain⟨h1,h2⟩:=h.head ho1
 obtain⟨X,hX⟩:∃ X:PRec,X=⟨W.pos.mount,W.pos.lsn,W.pos.prev,[⟨7,0,0,s⟩],[]⟩:=⟨_,rfl⟩
 have hmay:X.May:=by
  rw[hX]
  exact⟨b5,b3,b4,Nat.le_refl _,by simp,by intro i hi;simp at hi;subst hi;exact .inr (.inr (.inr (.inr ⟨rfl,rfl,rfl,(show s≤31 by omega)⟩))),rfl,by simp⟩
 have hXL:LiesR ((YW D (YB B W.pos.seg+W.pos.off) rs 1).write (YB B s) hd) B W.pos X:=by
  refine⟨hmay,by rw[hX],by rw[hX],by rw[hX];exact Nat.le_refl _,by rw[hX];simp only[List.length_nil];omega,fun k hk=>?_⟩
  obtain rfl:k=0:=by rw[hX] at hk;simp only[List.length_nil] at hk;omega
  rw[hnow,if_neg (by unfold YB;omega),if_pos (by omega),hX]
  unfold PRec.bytes seg
  simp only[List.flatten_nil,List.append_nil]
  rw[Nat.zero_mul,List.drop_zero,← hr.eq,List.take_of_length_le (by rw[hr.len];omega)]
 have hXn:KL X.items=true:=by rw[hX];rfl
 have hends:=h2.ends
 rw[h1.off,h1.seg] at hends
 have hch:=h2.keepD (D':=(YW D (YB B W.pos.seg+W.pos.off) rs 1).write (YB B s) hd) (fun x ha hb'=>hoth x (by rw[h1.seg] at ha hb';unfold YB at *;omega) (by rw[h1.seg] at hb';omega))
 refine⟨fun k=>if k=s then ⟨s,1,W.pos.lsn+1,sum,W.pos.mount⟩ else H k,fun k=>if k=s then [] else if k=W.pos.seg then R W.pos.seg++[X] else R k,⟨?_,by simp,⟨by simp only;omega,by simp,?_,hsu,b5⟩,by simp,?_,?_,?_,?_,by rw[show ({ W with pos:=(⟨s,1,W.pos.lsn+1,sum,W.pos.mount⟩:PPos) }:PW).items=[] from hW];simp,?_,?_,by rw[show ({ W with pos:=(⟨s,1,W.pos.lsn+1,sum,W.pos.mount⟩:PPos) }:PW).blocks=[] from hWb];simp⟩,?_⟩
 · intro k hk8 h0 j hj
   try simp only at h0
   split at h0
   · omega
   · rename_i e
     have:k≠W.pos.seg:=fun e=>h.here (e ▸ h0)
     exact(h.free k hk8 h0 j hj).keepD (by omega) (by simp) (fun y h1 h2=>hoth y (by unfold YB at *;omega) (by unfold YB at *;omega))
 · simp only;omega
 · intro _
   simp only[if_true]
   refine⟨⟨rfl,rfl,b5,by simp only;omega,hsu,?_⟩,rfl⟩
   rw[hnow,if_pos rfl,hh.is,Zu]
 · intro k hk1 hk2
   try simp only at hk1 ⊢
   exact(h.free s hs hs0 k hk2).keepD (by omega) (by simp) (fun y h1 h2=>hoth y (by omega) (by unfold YB at *;omega))
 · intro k hk8 h0 hkne
   try simp only at hkne h0
   rw[if_neg hkne] at h0
   simp only[if_neg hkne]
   by_cases e:k=W.pos.seg
   · subst e
     simp only[if_true]
     exact⟨h1.keepD (hoth _ (by unfold YB;omega) (by omega)),_,X,W.pos,rfl,hch,hXL,hXn,fun k k1 k2=>(h.rest k (by omega) k2).keepD (by omega) (by simp) (fun y h1 h2=>hoth y (by unfold YB at *;omega) (by rw[hX] at k1;simp only[List.length_nil] at k1;omega))⟩
   · simp only[if_neg e]
     obtain⟨f1,Rs,x,q,f2,f3,f4,f5,f6⟩:=h.full k hk8 h0 e
     have hq:=f3.ends
     have hro:=f4.room
     rw[f1.seg,f1.off] at hq
     have hin:∀ y,YB B k≤y→y<YB B k+24→seg 64 ((YW D (YB B W.pos.seg+W.pos.off) rs 1).write (YB B s) hd).now y=seg 64 D.now y:=fun y h1 h2=>hoth y (by unfold YB at *;omega) (by unfold YB at *;omega)
     exact⟨f1.keepD (hin _ (Nat.le_refl _) (by omega)),Rs,x,q,f2,f3.keepD (fun y ha hb'=>hin y (by rw[f1.seg] at ha;omega) (by rw[f1.seg] at hb';omega)),f4.keepD (fun y ha hb'=>hin y (by rw[← hq.1] at ha;omega) (by rw[← hq.1] at hb';omega)),f5,fun j k1 k2=>(f6 j k1 k2).keepD (by omega) (by simp) (fun y h1 h2=>hin y (by rw[← hq.1] at h1;omega) (by rw[← hq.1] at h2;omega))⟩
 · intro k hk8 x hx i hi hl
   try simp only at hx
   split at hx
   · simp at hx
   · split at hx
     · rcases List.mem_append.1 hx with hx | hx
       · exact h.own _ (by omega) x hx i hi hl
       · simp at hx
         subst hx
         rw[hX] at hi
         simp at hi
         subst hi
         cases hl
     · exact h.own k hk8 x hx i hi hl
 · intro k hk8 x hx
   try simp only at hx ⊢
   split at hx
   · simp at hx
   · split at hx
     · rcases List.mem_append.1 hx with hx | hx
       · have:=h.low _ (by omega) x hx;omega
       · simp at hx
         rw[hx,hX]
         simp only;omega
     · have:=h.low k hk8 x hx;omega
 · intro k hk8 x hx b hb'
   try simp only at hx
   split at hx
   · simp at hx
   · split at hx
     · rcases List.mem_append.1 hx with hx | hx
       · exact h.blk _ (by omega) x hx b hb'
       · simp at hx
         rw[hx,hX] at hb'
         simp at hb'
     · exact h.blk k hk8 x hx b hb'
 · intro b a hab
   right
   rcases hab with hab | ⟨k,hk8,h0,hab⟩
   · rw[hW] at hab
     simp[Jo] at hab
   · have hks:k≠s:=fun e=>h0 (e ▸ hs0)
     refine⟨k,hk8,by simp only[if_neg hks];exact h0,?_⟩
     simp only[if_neg hks]
     split
     · rename_i e
       subst e
       rw[JU h2 X,Qg]
       exact List.mem_append_left _ hab
     · exact hab
def Ka (us:List (Nat×Nat)) (s:Nat):Nat:=(us.getD s (0,0)).1
theorem LogOn.added {B:Nat} {D D':PDisk} {us us':List (Nat×Nat)} {lv lv':List Nat} {W W':PW} {k j a:Nat} {i:PItem} {bs:List UInt8} {H:Nat→PPos} {R:Nat→List PRec} (h:LogOn B D (Ka us) W H R) (hA:Added B D us lv W i bs D' us' lv' W' a)
 (hc:Cap D us W k j) (hfr:¬ VL (VU W) 1 (ZV i)→0<QE us) (hj:j≤100000) (hn:D.now.length=D.n*64) (hm:D.n=198+4*pgs B) (hi:i.k≠7) (hib:i.loaded=true→i.b<B) (hbs:i.loaded=true→Vp bs) :
 ∃ H' R',LogOn B D' (Ka us') W' H' R'∧(∀ b a,RefTold B (Ka us) W H R b a→RefTold B (Ka us') W' H' R' b a)∧(i.loaded=true→RefTold B (Ka us') W' H' R' i.b a):=by
 obtain⟨W1,hR,rfl,ha⟩:=hA
 have hul:=hc.ul
 have hlsn:=hc.lsn
 have hsg:=hc.seg
 have hmi:ZV i≤1:=by unfold ZV;split <;> omega
 obtain⟨H',R',hl,hmono,hok⟩:∃ H' R',LogOn B D' (Ka us') W1 H' R'∧(∀ b a,RefTold B (Ka us) W H R b a→RefTold B (Ka us') W1 H' R' b a)∧W1.blocks.length=YE W1.items:=by
  rcases hR with⟨hf,rfl,rfl,rfl,rfl⟩ | ⟨hnf,hf,hE,rfl⟩ | ⟨hnf,hf,rfl,D1,us1,W2,hE,hT⟩
  · exact⟨H,R,h,fun _ _ h=>h,hc.ok.many⟩
  · obtain⟨H',R',h1,h2⟩:=h.emitted hE hc.ok hn hm hc.off (by omega)
    obtain⟨e1,e2,-⟩:=hE.facts hc.ok
    have hst:∀ s,Ka us' s=Ka us s:=fun s=>by
     rcases hE with⟨_,_,rfl,_⟩ | ⟨_,D1,W1,rs,sum,_,_,_,_,rfl,_⟩
     · rfl
     · exact QG _ _ _ _
    exact⟨H',R',h1.st (fun s _=>by rw[hst]),fun b a hx=>(h2 b a hx).st (fun s _ hx=>by rw[hst];exact hx),by rw[e1,e2];rfl⟩
  · obtain⟨hff1,hff2⟩:=ZO us (hfr hf)
    obtain⟨H1,R1,h1,h2⟩:=h.emitted hE hc.ok hn hm hc.off (by omega)
    obtain⟨e1,e2,e3,-,-,e4,e5,e6,-,-,-,e7,-⟩:=hE.facts hc.ok
    have hrd:=(hE.reads hc.ok hn hm hsg hc.off).1
    have hoff:1≤W2.pos.off∧W2.pos.off≤23:=by
     by_cases h0:W.items=[]
     · have e:=e5 h0
       have:VU W=W.pos.off:=by unfold VU;rw[if_pos h0]
       rw[this] at hf
       have:22≤W.pos.off:=by unfold VL KB at hf;omega
       have:=hc.off
       omega
     · have e:=e6 h0
       have h9:=hc.ok.fit h0
       have:VU W=KB W.pos.off W.blocks.length:=by unfold VU;rw[if_neg h0]
       rw[e,this]
       unfold KB at *
       omega
    obtain⟨H',R',h3,h4⟩:=h1.turned hT (by omega) hff2 e1 e2 hrd (by rw[e7];exact hm) hoff.1 hoff.2 (by omega)
    obtain⟨rs,hd,sum,t1,t2,t3,t4,t5,t6⟩:=hT
    have hul1:us1.length=8∧∀ s,s<8→Ka us1 s=if s=VB us then 1 else Ka us s:=by
     rcases hE with⟨_,_,rfl,_⟩ | ⟨_,D1,W1,rs,sum,_,_,_,_,rfl,_⟩
     · exact⟨by simp[hul],fun s hs=>ZF _ _ _ _ (by omega)⟩
     · exact⟨by simp[hul,QF],fun s hs=>by unfold Ka;rw[QG];exact ZF _ _ _ _ (by omega)⟩
    have hst:∀ s,s<8→(Ka us' s=0↔(fun k=>if k=VB us then 1 else Ka us k) s=0):=fun s hs=>by
     have:Ka us' s=if s=W2.pos.seg then 2 else Ka us1 s:=by
      rw[t5]
      unfold Ka
      rw[ZF _ _ _ _ (by simp[QF,hul1.1,e3];omega),QG]
     rw[this,hul1.2 s hs]
     simp only
     split
     · rename_i e
       have:=h.here
       rw[e,e3]
       have:W.pos.seg≠VB us:=fun e=>this (e ▸ hff2)
       rw[if_neg this]
       exact⟨by omega,fun h0=>absurd h0 h.here⟩
     · rfl
    exact⟨H',R',h3.st hst,fun b a hx=>(h4 b a (h2 b a hx)).st (fun s hs hx=>fun h0=>hx ((hst s hs).1 h0)),by rw[t6];simp only;rw[e1,e2];rfl⟩
 refine⟨H',R',⟨hl.free,hl.here,hl.pos,hl.off0,hl.head,hl.rest,hl.full,hl.own,fun x hx=>?_,hl.low,hl.blk,fun b hb'=>?_⟩,fun b a' hx=>(hmono b a' hx).imp (fun hx=>?_) id,fun hl'=>.inl ?_⟩
 · rcases List.mem_append.1 hx with hx | hx
   · exact hl.wait x hx
   · simp at hx;subst hx;exact⟨hi,hib⟩
 · simp only at hb'
   split at hb'
   · rename_i hl'
     rcases List.mem_append.1 hb' with hb' | hb'
     · exact hl.wblk b hb'
     · simp at hb';subst hb';exact hbs hl'
   · exact hl.wblk b hb'
 · simp only
   rw[VAB]
   exact List.mem_append_left _ hx
 · simp only
   rw[VAB,if_pos hl']
   refine List.mem_append_right _ ?_
   rw[if_pos hl',hok] at ha
   have:YB B W1.pos.seg+KB W1.pos.off 0-1+YE W1.items+1=a:=by rw[ha];unfold KB;omega
   rw[this];simp
end
section
open Go.RowKit Go.Shelf
theorem JAw (w:World) (base m p1 p2:Nat) (F F1 F2:List Nat) (I:PImage) (h:ImageIs w base m p1 p2 F F1 F2 I) (b a:Nat) (hb:b<I.bl.length) (ha:1≤a∧a<4096) :
 Calls Tryz.prog 62 #[.pointer (some ⟨m,0,none⟩),.bool false,.int .i64 (b:Nat),.int .i64 (a:Nat)] w fun e w'=>e=.returned (.tuple #[.int .i64 (YF I.bl[b] a),.bool true])∧PagedAt w' base p1 F1 (I.bl.set b a) (ZJ I.bl I.bd b a)∧Keep F1 w w':=by
 have hH:=VAL w base m p1 p2 F F1 F2 I h b 1 (Nat.le_refl _) (by exact hb)
 have hT:=XU w base m p1 p2 F F1 F2 I h false
 have hS:=QAH w base p1 F1 I.bl I.bd h.b b hb a
 obtain⟨ha1,ha2⟩:=ha
 have q1:(1:Int)≤(a:Nat):=by omega
 have q2:((a:Nat):Int)<4096:=by omega
 generalize YF I.bl[b] a=y at *
 go_enter Tryz.func62,Tryz.ntmps62
 go_wp2_with (first | (go_at_call 147;refine hH.mono ?_;rintro e w' ⟨rfl,rfl⟩) | (go_at_call 141;refine hT.mono ?_;rintro e w' ⟨rfl,rfl⟩) | (go_at_call 143;refine hS.mono ?_;rintro e w1 ⟨rfl,h1,hk1⟩))
 go_ret2
 exact⟨rfl,h1,hk1⟩
theorem VAX (w:World) (base m:Nat) (F:List Nat) (I:PImage) (h:ImageAt w base m F I) (b a:Nat) (hb:b<I.bl.length) (ha:1≤a∧a<4096) :
 Calls Tryz.prog 18 #[.pointer (some ⟨m,0,none⟩),.int .i64 (b:Nat),.int .i64 (a:Nat)] w fun e w'=>e=.returned (.tuple #[.int .i64 (YF (I.bl.getD b 0) a),.bool true])∧ImageAt w' base m F { I with bl:=I.bl.set b a,bd:=ZJ I.bl I.bd b a }∧Keep F w w':=by
 obtain⟨p1,p2,F1,F2,h⟩:=h
 have hO:=JAw w base m p1 p2 F F1 F2 I h b a hb ha
 rw[Xm hb]
 generalize YF I.bl[b] a=y at *
 go_enter Tryz.func18,Tryz.ntmps18
 go_wp2_with (refine hO.mono ?_;rintro e w1 ⟨rfl,h1,hk1⟩)
 go_ret2
 refine⟨rfl,⟨p1,p2,F1,F2,h.setB h1 hk1 (by simp) ?_⟩,hk1.sub h.subB⟩
 intro x hx
 rcases List.mem_or_eq_of_mem_set hx with hx | rfl
 · exact h.ok.2.1 x hx
 · omega
def PutDone (B:Nat) (S:PS) (b:Nat) (bs:List UInt8) (S':PS):Prop:=
 ∃ D' us' lv1 W' a,Added B S.D S.us S.lv S.W ⟨5,b,0,0⟩ bs D' us' lv1 W' a ∧
   S'={ S with D:=D',us:=us',lv:=Za B lv1 a [YF (S.I.bl.getD b 0) a],W:=W',I:={ S.I with bl:=S.I.bl.set b a,bd:=ZJ S.I.bl S.I.bd b a } }
theorem PutDone.good {B:Nat} {S S':PS} {b k j:Nat} {bs:List UInt8} (h:PutDone B S b bs S') (hg:Good B S k j) (hk:k≤50) (hb:b<B) (hl:bs.length=64) :
 Good B S' (k+1) (j+1)∧QW B S'=(QW B S).set b bs∧S'.st=S.st:=by
 obtain⟨D',us',lv1,W',a,hA,rfl⟩:=h
 have hmay:PItem.May ⟨5,b,0,0⟩:=.inl ⟨.inr rfl,by have:=hg.b64;simp only;omega,rfl,rfl⟩
 have hc:=hg.cap.added hk hmay (fun _=>hl) hA
 obtain⟨r1,r2,r3,r4,r5⟩:=hA.reads hg.cap hk hg.now hg.many
 obtain⟨ra,rb⟩:=r5 rfl
 have hK:∀ x,Lies B S.us S.W x→Lies B us' W' x∧ZM B D' W' x=ZM B S.D S.W x:=fun x hx=>⟨(r4 x hx).1,(r4 x hx).2.1⟩
 have hKb:=QV (B:=B) (S:=S) (S':={ S with D:=D',us:=us',W:=W' }) hK hg.brefs
 have hKo:=XV (B:=B) (S:=S) (S':={ S with D:=D',us:=us',W:=W' }) hK hg.orefs
 have h0:a≠0:=by have:=ra.lo;omega
 refine⟨⟨hc,r1,r2.trans hg.many,by simp only;rw[r3];exact hg.flt,by simp only;rw[r3,r2];exact hg.flen,hg.b1,hg.b64,by simpa using hg.bl,hg.ol,?_,hKo.1,by have:=hg.seq;simp only;omega,by have:=hg.epoch;simp only;omega,by have:=hg.done;simp only;omega⟩,?_,rfl⟩
 · intro x hx
   rcases List.mem_or_eq_of_mem_set hx with hx | rfl
   · exact hKb.1 x hx
   · exact .inr ⟨by omega,by simpa using ra⟩
 · unfold QW
   simp only
   rw[List.map_set]
   congr 1
   · exact hKb.2
   · unfold ZN
     rw[if_neg (by omega)]
     simp only[Int.toNat_natCast]
     rw[rb]
end
section
open Go.RowKit
end
end Go.Proofs.YthgphmfipnjllaaGreat
