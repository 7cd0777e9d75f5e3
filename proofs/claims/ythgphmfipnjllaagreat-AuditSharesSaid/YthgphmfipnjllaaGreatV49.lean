/- Lemmas of the proof, with their conditions. -/
import Derived.Test.YthgphmfipnjllaaGreatV48
namespace Go.Proofs.YthgphmfipnjllaaGreat
set_option linter.unusedSimpArgs false
set_option linter.unusedVariables false
set_option maxHeartbeats 8000000
set_option maxRecDepth 40000
section
open Go.RowKit
theorem JS {bl ol:List Int} {k b:Nat} (hb:b<k) (h0:0<bl.getD b 0):(b,bl.getD b 0)∈KE bl ol k:=by
 induction k with
 | zero=>omega
 | succ k ih=>
   simp only[KE,List.mem_append]
   by_cases e:b=k
   · subst e
     right;left
     rw[if_pos h0];simp
   · exact .inl (ih (by omega))
theorem Zd {bl ol:List Int} (ho:∀ b,ol.getD b 0≤0) (k:Nat):(KE bl ol k).Pairwise (fun p q=>p.1<q.1):=by
 induction k with
 | zero=>simp[KE]
 | succ k ih=>
   simp only[KE]
   rw[if_neg (show ¬ 0<ol.getD k 0 by have:=ho k;omega),List.append_nil]
   refine List.pairwise_append.2 ⟨ih,by split <;> simp,?_⟩
   rintro⟨b,z⟩ hp ⟨c,y⟩ hq
   obtain⟨hb,-⟩:=XM hp
   split at hq
   · simp at hq
     simp only;omega
   · simp at hq
theorem YAX (c:Nat) (f:Nat→PRef→Bool) (rs:List PRef) (p:Nat) (hp:p<rs.length) (h:∀ i r,rs[i]? = some r→(f i r=true↔i=p)) (k:Nat) (hk:k≤rs.length) :
 YK c f rs k=if p<k then [(c,rs[p].seg,rs[p].block)] else []:=by
 induction k with
 | zero=>rfl
 | succ k ih=>
   simp only[YK]
   rw[ih (by omega),List.getElem?_eq_getElem (show k<rs.length by omega)]
   have hf:=h k rs[k] (List.getElem?_eq_getElem (by omega))
   simp only
   by_cases e:k=p
   · subst e
     rw[if_neg (Nat.lt_irrefl _),if_pos (hf.2 rfl),if_pos (Nat.lt_succ_self _)];rfl
   · rw[if_neg (fun h=>e (hf.1 h)),List.append_nil]
     by_cases e2:p<k
     · rw[if_pos e2,if_pos (by omega)]
     · rw[if_neg e2,if_neg (by omega)]
theorem ZAj (c:Nat) (f:Nat→PRef→Bool) (rs:List PRef) (p:Nat) (hp:p<rs.length) (h:∀ i r,rs[i]? = some r→(f i r=true↔i=p)):VN c f rs=[(c,rs[p].seg,rs[p].block)]:=by
 unfold VN
 rw[YAX c f rs p hp h _ (Nat.le_refl _),if_pos hp]
theorem Jr (c:Nat) (f:Nat→PRef→Bool) (rs:List PRef) (k:Nat):∀ q∈YK c f rs k,q.1=c:=by
 induction k with
 | zero=>simp[YK]
 | succ k ih=>
   intro q hq
   simp only[YK] at hq
   rcases List.mem_append.1 hq with hq | hq
   · exact ih q hq
   · split at hq
     · split at hq
       · simp at hq;rw[hq]
       · simp at hq
     · simp at hq
theorem XAG (lv:List Nat) (rs:List PRef) (k:Nat):∀ q∈JK lv rs k,q.1=3:=by
 induction k with
 | zero=>simp[JK]
 | succ k ih=>
   intro q hq
   simp only[JK] at hq
   rcases List.mem_append.1 hq with hq | hq
   · exact ih q hq
   · split at hq
     · simp at hq;rw[hq]
     · simp at hq
def Kq (B:Nat) (S:PS) (T:Nat→List (Nat×Nat)):List PFlt:=
 ((VN 2 (fun _ r => !Qb S.us r.seg) (VD B S.I)++JK S.lv (VD B S.I) 8)++VN 4 (Qe S.us S.W.pos (Zo S.us T 8)) (VD B S.I))++Zh S.us
theorem KAf (B:Nat) (S:PS) (T:Nat→List (Nat×Nat)):YP B S T=VN 1 (ZW (VD B S.I)) (VD B S.I)++Kq B S T:=by simp[YP,Kq,List.append_assoc]
theorem VAE (B:Nat) (S:PS) (T:Nat→List (Nat×Nat)):∀ q∈Kq B S T,1<q.1:=by
 intro q hq
 unfold Kq at hq
 simp only[List.mem_append] at hq
 rcases hq with((hq | hq) | hq) | hq
 · have:=Jr _ _ _ _ q hq;omega
 · have:=XAG _ _ _ q hq;omega
 · have:=Jr _ _ _ _ q hq;omega
 · unfold Zh at hq
   split at hq
   · simp at hq
   · simp at hq;rw[hq];simp
theorem ZAh {B:Nat} {I I':PImage} {a b xa:Nat} (hd:Dist I) (ho:∀ k,I.ol.getD k 0≤0) (hlb:b<I.bl.length) (hab:a≠b) (hxa:I.bl.getD a 0=(xa:Nat)) (h0:0<xa)
 (hbl:I'.bl=I.bl.set b (xa:Nat)) (hol:I'.ol=I.ol) :
 VN 1 (ZW (VD B I')) (VD B I')=[(1,(xa-(6+4*pgs B)) / 24,max a b)]:=by
 have hs:=fun k=>ZS I.bl b k (xa:Nat) hlb
 have hla:a<I.bl.length:=by
  by_cases h:a<I.bl.length
  · exact h
  · rw[KI (by omega)] at hxa;omega
 have hlen:I'.bl.length=I.bl.length:=by rw[hbl,List.length_set]
 have hsort:=Zd (bl:=I'.bl) (ol:=I'.ol) (by rw[hol];exact ho) I'.bl.length
 have ha':I'.bl.getD a 0=(xa:Nat):=by rw[hbl,hs,if_neg hab];exact hxa
 have hb':I'.bl.getD b 0=(xa:Nat):=by rw[hbl,hs,if_pos rfl]
 obtain⟨ml,hml⟩:∃ m,m=max a b:=⟨_,rfl⟩
 have hm':I'.bl.getD ml 0=(xa:Nat):=by rw[hml];rcases Nat.le_total a b with h | h;rw[Nat.max_eq_right h];exact hb';rw[Nat.max_eq_left h];exact ha'
 have hmem:=JS (bl:=I'.bl) (ol:=I'.ol) (k:=I'.bl.length) (b:=ml) (by omega) (by rw[hm'];omega)
 have hmemA:=JS (bl:=I'.bl) (ol:=I'.ol) (k:=I'.bl.length) (b:=a) (by omega) (by rw[ha'];omega)
 have hmemB:=JS (bl:=I'.bl) (ol:=I'.ol) (k:=I'.bl.length) (b:=b) (by omega) (by rw[hb'];omega)
 rw[hm'] at hmem
 rw[ha'] at hmemA
 rw[hb'] at hmemB
 -- values
 have hval:∀ c z,(c,z)∈KE I'.bl I'.ol I'.bl.length→z=I'.bl.getD c 0∧0<z:=fun c z h=>by
  obtain⟨_,h1,h2⟩:=XM h
  rcases h2 with h2 | h2
  · exact⟨h2.symm,h1⟩
  · rw[hol] at h2;have:=ho c;omega
 have hpair:∀ c e,c<e→0<I'.bl.getD e 0→I'.bl.getD c 0=I'.bl.getD e 0→e=ml:=fun c e hce hp he=>by
  rw[hbl,hs,hs] at he
  rw[hbl,hs] at hp
  split at he
  · rename_i e1
    split at he
    · omega
    · have:=hd.bb a e (by omega) (by omega);omega
  · rename_i e1
    split at he
    · have:=hd.bb c a (by omega) (by omega);omega
    · rename_i e2
      rw[if_neg e2] at hp
      have:=hd.bb c e (by omega) he
      omega
 unfold VD
 obtain⟨l,hl⟩:∃ l,l=KE I'.bl I'.ol I'.bl.length:=⟨_,rfl⟩
 rw[← hl] at hsort hmem hmemA hmemB hval ⊢
 obtain⟨p,hp,hpe⟩:=List.getElem_of_mem hmem
 have hsl:=List.pairwise_iff_getElem.1 hsort
 have hinj:∀ i (hi:i<l.length),l[i].1=ml→i=p:=fun i hi he=>by
  rcases Nat.lt_trichotomy i p with h | h | h
  · have:=hsl i p hi hp h;rw[hpe] at this;simp only at this;omega
  · exact h
  · have:=hsl p i hp hi h;rw[hpe] at this;simp only at this;omega
 rw[ZAj 1 _ _ p (by rw[List.length_map];exact hp)]
 · rw[List.getElem_map,hpe,hml];simp[YQ]
 · intro i r hi
   obtain⟨hil,hie⟩:=List.getElem?_eq_some_iff.1 hi
   rw[List.length_map] at hil
   rw[List.getElem_map] at hie
   have hvi:=hval l[i].1 l[i].2 (List.getElem_mem hil)
   unfold ZW
   rw[List.any_eq_true]
   constructor
   · rintro⟨y,hy,he⟩
     obtain⟨jj,hj,hy'⟩:=List.mem_take_iff_getElem.1 hy
     rw[List.length_map] at hj
     rw[List.getElem_map] at hy'
     have hjl:jj<l.length:=by omega
     have hvj:=hval l[jj].1 l[jj].2 (List.getElem_mem hjl)
     have hlt:=hsl jj i hjl hil (by omega)
     rw[← hie,← hy'] at he
     simp only[YQ,beq_iff_eq] at he
     exact hinj i hil (hpair l[jj].1 l[i].1 hlt (by rw[← hvi.1];exact hvi.2) (by rw[← hvi.1,← hvj.1];omega))
   · rintro rfl
     have hother:∃ c,(c,((xa:Nat):Int))∈l∧c<ml:=by
      rcases Nat.lt_or_gt_of_ne hab with h | h
      · exact⟨a,hmemA,by omega⟩
      · exact⟨b,hmemB,by omega⟩
     obtain⟨c,hc,hcm⟩:=hother
     obtain⟨jj,hj,hje⟩:=List.getElem_of_mem hc
     have hjp:jj<i:=by
      rcases Nat.lt_trichotomy jj i with h | h | h
      · exact h
      · subst h;rw[hpe] at hje;simp at hje;omega
      · have:=hsl i jj hil hj h;rw[hje,hpe] at this;simp only at this;omega
     refine⟨YQ B l[jj],List.mem_take_iff_getElem.2 ⟨jj,by rw[List.length_map];omega,by rw[List.getElem_map]⟩,?_⟩
     rw[← hie,hje,hpe]
     simp[YQ]
end
section
open Go.RowKit Go.Shelf
def KW (B:Nat) (us:List (Nat×Nat)) (I:PImage) (H:Nat→PPos) (R:Nat→List PRec) (sg:Nat):List (Nat×Nat):=
 if sg<8∧Qb us sg=true then VK I B (placed (H sg) (R sg)) else []
theorem LogOn.begins {B:Nat} {D:PDisk} {us:List (Nat×Nat)} {W:PW} {H:Nat→PPos} {R:Nat→List PRec} (h:LogOn B D (Ka us) W H R) (sg:Nat) (hs:sg<8) (hu:Qb us sg=true) :
 ∃ p0 b0,Begins D B sg p0 b0 (R sg)∧placed p0 (R sg)=placed (H sg) (R sg)∧(R sg).length≤24∧(∀ x∈placed (H sg) (R sg),x.1.seg=sg∧x.1.off≤24∧x.2.May∧x.1.off+(1+x.2.blocks.length)≤24∧x.2∈R sg):=by
 have hu':Ka us sg≠0:=of_decide_eq_true hu
 by_cases e:sg=W.pos.seg
 · subst e
   by_cases h0:W.pos.off=0
   · obtain⟨h1,h2⟩:=h.off0 h0
     rw[h1]
     exact⟨⟨W.pos.seg,0,0,0,0⟩,false,.inr ⟨rfl,rfl,rfl,h2⟩,rfl,by simp,by simp[placed]⟩
   · obtain⟨h1,h2⟩:=h.head (by omega)
     have hp:=h.pos.2.1
     have he:=h2.ends
     have hz:W.pos.off=24∨W.pos.off<24∧Stale D (YB B W.pos.seg+W.pos.off) (24-W.pos.off) W.pos.lsn:=by
      by_cases h24:W.pos.off=24
      · exact .inl h24
      · exact .inr ⟨by omega,h.rest _ (Nat.le_refl _) (by omega)⟩
     refine⟨H W.pos.seg,true,.inl ⟨rfl,h1.seg,h1.off,h1.mount,h1.lsn,h1.prev,h1.bytes,h2.chained hz⟩,rfl,by rw[h1.off] at he;omega,fun x hx=>?_⟩
     obtain⟨a,b,c,d,f⟩:=h2.place x hx
     have:=c.room
     exact⟨a,by omega,c.may,by omega,f⟩
 · obtain⟨h1,Rs,x,q,h2,h3,h4,h5,h6⟩:=h.full sg hs hu' e
   have he:=h3.ends
   have hro:=h4.room
   rw[h1.seg,h1.off] at he
   rw[h2]
   refine⟨H sg,true,.inl ⟨rfl,h1.seg,h1.off,h1.mount,h1.lsn,h1.prev,h1.bytes,h3.last h4 h5⟩,rfl,by rw[List.length_append,List.length_singleton];omega,fun y hy=>?_⟩
   rw[JU h3] at hy
   rcases List.mem_append.1 hy with hy | hy
   · obtain⟨a,b,c,d,f⟩:=h3.place y hy
     have:=c.room
     exact⟨by rw[a,← he.1],by omega,c.may,by omega,List.mem_append_left _ f⟩
   · simp at hy
     subst hy
     exact⟨he.1.symm,by simp only;omega,h4.may,hro,by simp⟩
theorem XAo (a:Nat) (is:List PItem):(Jo a is).length≤is.length:=by
 induction is generalizing a with
 | nil=>simp[Jo]
 | cons i is ih=>
   unfold Jo
   split
   · simp only[List.length_cons];have:=ih (a+1);omega
   · have:=ih a;simp only[List.length_cons];omega
theorem XAP (a:Nat) (is:List PItem):∀ x∈Jo a is,∃ i∈is,i.loaded=true∧x.1=i.b:=by
 induction is generalizing a with
 | nil=>simp[Jo]
 | cons i is ih=>
   unfold Jo
   intro x hx
   split at hx
   · rename_i hl
     rcases List.mem_cons.1 hx with rfl | hx
     · exact⟨i,by simp,hl,rfl⟩
     · obtain⟨j,hj,h⟩:=ih _ x hx;exact⟨j,by simp[hj],h⟩
   · obtain⟨j,hj,h⟩:=ih _ x hx;exact⟨j,by simp[hj],h⟩
theorem JAQ (B:Nat) (L:List (PPos×PRec)) (h:∀ x∈L,x.2.items.length≤6):(QO B L).length≤6*L.length:=by
 induction L with
 | nil=>simp[QO]
 | cons x L ih=>
   have h1:=ih (fun y hy=>h y (by simp[hy]))
   have h2:=h x (by simp)
   have h3:=XAo (YB B x.1.seg+x.1.off) x.2.items
   simp only[QO,List.length_append,List.length_cons]
   omega
theorem ZAP {B:Nat} {L:List (PPos×PRec)} {q:Nat×Nat} (h:q∈QO B L):∃ x∈L,q∈Jo (YB B x.1.seg+x.1.off) x.2.items:=by
 induction L with
 | nil=>simp[QO] at h
 | cons x L ih=>
   simp only[QO,List.mem_append] at h
   rcases h with h | h
   · exact⟨x,by simp,h⟩
   · obtain⟨y,hy,h⟩:=ih h;exact⟨y,by simp[hy],h⟩
theorem XAk {B:Nat} {D:PDisk} {us:List (Nat×Nat)} {W:PW} {H:Nat→PPos} {R:Nat→List PRec} (h:LogOn B D (Ka us) W H R) (I:PImage) (hB:B≤64) (sg:Nat) :
 (KW B us I H R sg).length≤600∧∀ q∈KW B us I H R sg,q.1≤100000∧q.2≤100000:=by
 unfold KW
 split
 · rename_i hs
   obtain⟨p0,b0,-,-,hl,hp⟩:=h.begins sg hs.1 hs.2
   rw[ZZ]
   have h1:=JAQ B (placed (H sg) (R sg)) (fun x hx=>(hp x hx).2.2.1.few)
   rw[Kg] at h1
   refine⟨Nat.le_trans (List.length_filter_le _ _) (by omega),fun q hq=>?_⟩
   obtain⟨x,hx,hq'⟩:=ZAP (List.mem_filter.1 hq).1
   obtain⟨a1,a2,a3,a4,a5⟩:=hp x hx
   obtain⟨i,hi,hil,hib⟩:=XAP _ _ q hq'
   have h2:=h.own sg hs.1 x.2 a5 i hi hil
   have h3:=Xs _ _ q hq'
   have h4:YE x.2.items≤6:=Nat.le_trans (VH _) a3.few
   have h5:=(KC (B:=max B 1) (by omega) (by omega)).2
   have h6:pgs B≤5:=by unfold pgs;omega
   have h7:x.1.seg≤7:=by omega
   unfold YB at h3
   exact⟨by omega,by rw[a1] at h3;omega⟩
 · simp
theorem LogS.tells {B:Nat} {S:PS} {H:Nat→PPos} {R:Nat→List PRec} (hok:S.W.Ok) (ht:∀ b,b<B→∀ a:Nat,0<a→JAW S.I b a→RefTold B (Ka S.us) S.W H R b a) (hseg:S.W.pos.seg<8):XAJ B S (KW B S.us S.I H R):=by
 intro b hb a ha hr
 rcases ht b hb a ha hr with h1 | ⟨s,hs,hu,h1⟩
 · left
   have hne:S.W.items≠[]:=fun e=>by rw[e] at h1;simp[Jo] at h1
   have hf:=hok.fit hne
   have hm:=hok.many
   have h2:=Xs _ _ _ h1
   simp only at h2
   unfold Ky YQ
   simp only[Int.toNat_natCast,decide_eq_true_eq]
   unfold KB YB at *
   omega
 · right
   refine⟨s,hs,decide_eq_true hu,?_⟩
   unfold KW
   rw[if_pos ⟨hs,decide_eq_true hu⟩,ZZ,List.mem_filter]
   refine⟨h1,?_⟩
   unfold VP Xl
   rcases hr with hr | hr
   · simp only[hr,decide_true,Bool.true_or]
   · have:S.I.ol.getD b 0 ≠ -1:=by omega
     rw[if_neg this,hr];simp
section
variable (w:World) (base s d g t p m:Nat) (Fd Ft Fw Fm:List Nat) (L0 L1:Value) (B:Nat) (S:PS) (H:Nat→PPos) (R:Nat→List PRec)
theorem Zv (hS:StoreIs w base s d g t p m Fd Ft Fw Fm L0 L1 B S) (hL:LogOn B S.D (Ka S.us) S.W H R) (hB1:1≤B) (hB:B≤64) (hn:S.D.n=198+4*pgs B) (hf:∀ x∈S.D.faults,x=false) (hfl:S.D.faults.length=S.D.n)
 (hir:∀ x,YAT S.I x→6+4*pgs B≤x.2.toNat∧x.2.toNat<198+4*pgs B) (hlv:∀ k,S.lv.getD k 0≤1000000) :
 Calls Tryz.prog 19 #[.pointer (some ⟨s,0,none⟩)] w fun e w'=>∃ U,e=.returned (.tuple #[U,.int .i64 0])∧w'.ownsRow w.heap.size 59 3 U (YP B S (KW B S.us S.I H R)).length ((YP B S (KW B S.us S.I H R)).flatMap VAT)∧Keep [] w w':=by
 have hpg:=(KC hB1 hB).2
 have hok:=fun sg=>XAk hL S.I hB sg
 refine JAu w base s d g t p m Fd Ft Fw Fm L0 L1 B S (KW B S.us S.I H R) hS (fun W hk sg hs hu=>?_) (fun sg=>(hok sg).1) (fun sg=>(hok sg).2) hS.log.off hir hB hlv (fun r hr=>?_) ?_
 · obtain⟨p0,b0,hbg,hpp,hl,hp⟩:=hL.begins sg hs hu
   have hA:=KAM W base d g m B sg p0 b0 Fd Fm S.I S.D (R sg) (hS.log.geom.keep0 hk) (hS.log.disk.keep0 hk) (hS.img.keep0 hk) hS.blen hS.log.off hn (by omega) (fun k hk'=>by
    have hk2:k<S.D.faults.length:=by omega
    rw[List.getElem?_eq_getElem hk2,hf _ (List.getElem_mem hk2)]) hbg (by rw[hpp];exact fun x hx=>⟨(hp x hx).1,(hp x hx).2.1,(hp x hx).2.2.1,fun i hi hil=>hL.own sg hs x.2 (hp x hx).2.2.2.2 i hi hil⟩) (by omega)
   have e:KW B S.us S.I H R sg=VK S.I B (placed p0 (R sg)):=by unfold KW;rw[if_pos ⟨hs,hu⟩,hpp]
   rw[e]
   exact hA
 · obtain⟨b,z,rfl,hb,hz,h⟩:=KU hr
   have:=hir (b,z) ⟨hz,h⟩
   have hbl:=hS.blen
   simp only[YQ] at this ⊢
   omega
 · unfold VD
   rw[List.length_map]
   have:=Xe S.I.bl S.I.ol S.I.bl.length
   have hbl:=hS.blen
   omega
theorem Yn (hS:StoreIs w base s d g t p m Fd Ft Fw Fm L0 L1 B S) (hL:LogOn B S.D (Ka S.us) S.W H R) (hB1:1≤B) (hB:B≤64) (hn:S.D.n=198+4*pgs B) (hf:∀ x∈S.D.faults,x=false) (hfl:S.D.faults.length=S.D.n)
 (hir:∀ x,YAT S.I x→6+4*pgs B≤x.2.toNat∧x.2.toNat<198+4*pgs B) (hlv:∀ k,S.lv.getD k 0≤1000000) :
 Calls Tryz.prog 15 #[.pointer (some ⟨s,0,none⟩)] w fun e w'=>e=.returned (.bool (decide (YP B S (KW B S.us S.I H R)=[])))∧Keep [] w w':=by
 have hK:=Zv w base s d g t p m Fd Ft Fw Fm L0 L1 B S H R hS hL hB1 hB hn hf hfl hir hlv
 generalize YP B S (KW B S.us S.I H R)=fs at *
 clear hS hL hir hlv hf
 have hfs:(fs=[])↔fs.length=0:=List.length_eq_zero_iff.symm
 simp only[hfs]
 obtain⟨n,hnn⟩:∃ n,n=fs.length:=⟨_,rfl⟩
 rw[← hnn] at hK ⊢
 clear hnn hfs
 go_enter Tryz.func15,Tryz.ntmps15
 go_wp2_with (
  refine hK.mono ?_
  clear hK
  rintro e w2 ⟨U,rfl,hU,hk2⟩
  obtain⟨A,c,rfl,_⟩:=QB hU)
 go_ret
 exact⟨XK (by rw[Bool.eq_iff_iff];simp),hk2⟩
end
end
section
open Go.RowKit Go.Shelf
theorem YAn (x:Int):Vp (Zl x):=by
 rintro⟨h0,h1⟩
 unfold Zl QR at h0 h1
 rw[List.getElem?_map,List.getElem?_range (by omega)] at h0 h1
 simp only[Option.map_some,Option.some.injEq] at h0 h1
 have e0:=congrArg UInt8.toNat h0
 have e1:=congrArg UInt8.toNat h1
 rw[UInt8.toNat_ofNat'] at e0 e1
 simp at e0 e1
 omega
structure AuSt (w0 w:World) (B t d s k:Nat) (F:List Nat) (S:PS):Prop where
 yard:∃ a b c,Blk w t 37 #[a,b,.pointer (some ⟨s,0,none⟩),c]
 st:StoreAt w w0.heap.size s d F B S
 good:Good B S k (2*k)
 ext:Ext B S
 log:LogS B S
 dist:Dist S.I
 mode:S.st.mode=1
 nt:t∉F
 tb:w0.heap.size≤t
 kept:Keep [] w0 w
namespace AuSt
variable {w0 w w':World} {B t d s k:Nat} {F:List Nat} {S:PS}
theorem new {D:PDisk} (h:XAg w w' B t d s F D) (hf:XAO (198+4*pgs B) B D):AuSt w w' B t d s 0 F (PS.fresh B D):=by
 obtain⟨m,x,hb,hst,hg,hn,ht,hk⟩:=h
 obtain⟨hl,hd⟩:=KAZ hf
 exact⟨⟨_,_,_,hb⟩,hst,hg,ZAZ B D,hl,hd,rfl,hn,ht,hk⟩
theorem keep0 (h:AuSt w0 w B t d s k F S) (hk:Keep [] w w'):AuSt w0 w' B t d s k F S:=by
 obtain⟨a,b,c,hb⟩:=h.yard
 exact⟨⟨a,b,c,hb.keep0 hk⟩,h.st.keep0 hk,h.good,h.ext,h.log,h.dist,h.mode,h.nt,h.tb,h.kept.trans0 hk⟩
theorem cell (h:AuSt w0 w B t d s k F S):w.cell? ⟨t,2,none⟩=some (.pointer (some ⟨s,0,none⟩)):=by
 obtain⟨a,b,c,hb⟩:=h.yard
 simpa using hb.cell 2
theorem keepF (h:AuSt w0 w B t d s k F S) (hk:Keep F w w'):Keep [] w0 w':=
 h.kept.trans hk (fun x hx=>.inr (h.st.ge x hx))
theorem turn (h:AuSt w0 w B t d s k F S) {F':List Nat} {S':PS} {k':Nat} (hs:StoreAt w' w0.heap.size s d F' B S') (hk:Keep F w w') (hg:Grow w F F') (hgd:Good B S' k' (2*k')) (hx:Ext B S') (hl:LogS B S') (hd:Dist S'.I) (hm:S'.st.mode=1):AuSt w0 w' B t d s k' F' S':=by
 obtain⟨a,b,c,hb⟩:=h.yard
 refine⟨⟨a,b,c,hb.keep hk h.nt⟩,hs,hgd,hx,hl,hd,hm,fun hmem=>?_,h.tb,h.keepF hk⟩
 rcases hg t hmem with h1 | h1
 · exact h.nt h1
 · have:=hb.lt;omega
theorem write (h:AuSt w0 w B t d s k F S) (hk:k≤50) (b:Nat) (hb:b<B) (x:Int) (A:Option Addr) (c:Nat) (hr:Rd w A 64 (bys (Zl x))) (hA:∀ x,A=some x→x.block∉F) :
 Calls Tryz.prog 12 #[.pointer (some ⟨s,0,none⟩),.int .i64 (b:Nat),.slice A 64 c] w fun e w'=>e=.returned (.int .i64 0)∧∃ F' S' a,AuSt w0 w' B t d s (k+1) F' S'∧0<a∧S'.I.ol=S.I.ol.set b ((a:Nat):Int)∧S'.I.bl=S.I.bl∧S'.st.epoch=S.st.epoch:=by
 refine(VAY w _ s d F B S h.st k (2*k) h.good hk (by omega) h.mode b hb A c (Zl x) hr hA).mono ?_
 rintro e w' ⟨rfl,F',S',hst,hW,hkp,hgr⟩
 obtain⟨hg,_,_,he⟩:=hW.good h.good hk hb (length_fillOf x)
 have hx:=hW.ext h.good hk (by omega) hb h.ext
 obtain⟨hl,hd⟩:=hW.log h.good hk (by omega) hb (YAn x) h.log h.dist
 obtain⟨r1,r2,r3⟩:∃ a,0<a∧S'.I.ol=S.I.ol.set b ((a:Nat):Int)∧S'.I.bl=S.I.bl:=by
  obtain⟨D',us',lv1,W',a,hA,rfl⟩:=hW
  obtain⟨_,_,_,_,r5⟩:=hA.reads h.good.cap hk h.good.now h.good.many
  have:=(r5 rfl).1.lo
  exact⟨a,by omega,rfl,rfl⟩
 refine⟨rfl,F',S',r1,h.turn hst hkp hgr (hg.mono (Nat.le_refl _) (by omega)) hx hl hd (by rw[he];exact h.mode),r2,r3.1,r3.2,by rw[he]⟩
theorem mark (h:AuSt w0 w B t d s k F S) (hk:k≤50) (he:S.st.epoch=0) :
 Calls Tryz.prog 14 #[.pointer (some ⟨s,0,none⟩),.int .i64 1] w fun e w'=>e=.returned (.int .i64 0)∧∃ F' S',AuSt w0 w' B t d s (k+1) F' S'∧S'.I.bl=Xb S.I.bl S.I.ol S.I.ol.length∧S'.I.ol=Ze S.I.ol S.I.ol.length:=by
 refine(VAo w _ s d F B S h.st k (2*k) h.good hk (by omega) h.mode 1 (by omega)).mono ?_
 rintro e w' ⟨rfl,F',S',hst,hW,hkp,hgr⟩
 obtain⟨hg,_,_,hs⟩:=hW.good h.good hk ⟨Nat.le_refl _,by omega⟩ (by omega)
 have hx:=hW.ext h.good hk (by omega) ⟨Nat.le_refl _,by omega⟩ h.ext
 obtain⟨hl,hd⟩:=hW.log h.good hk (by omega) ⟨Nat.le_refl _,by omega⟩ h.log h.dist
 have hI:S'.I.bl=Xb S.I.bl S.I.ol S.I.ol.length∧S'.I.ol=Ze S.I.ol S.I.ol.length:=by
  obtain⟨D1,us1,lv1,W1,a,D2,us2,W2,bd,od,hA,hE,rfl⟩:=hW
  exact⟨rfl,rfl⟩
 exact⟨rfl,F',S',h.turn hst hkp hgr (hg.mono (Nat.le_refl _) (by omega)) hx hl hd (by rw[hs];exact h.mode),hI⟩
theorem refs (h:AuSt w0 w B t d s k F S):∀ x,YAT S.I x→6+4*pgs B≤x.2.toNat∧x.2.toNat<198+4*pgs B:=by
 rintro⟨b,z⟩ ⟨h0,hh⟩
 simp only at h0 hh ⊢
 have hok:z = -1∨RefOk B S z:=by
  rcases hh with hh | hh
  · by_cases hb:b<S.I.bl.length
    · rw[JH hb] at hh;exact .inr (hh ▸ h.good.brefs _ (List.getElem_mem hb))
    · rw[KI (by omega)] at hh;omega
  · by_cases hb:b<S.I.ol.length
    · rw[JH hb] at hh;exact hh ▸ h.good.orefs _ (List.getElem_mem hb)
    · rw[KI (by omega)] at hh;omega
 rcases hok with hz | hz | ⟨_,hz⟩
 · omega
 · omega
 · exact⟨hz.lo,hz.hi⟩
theorem lives (h:AuSt w0 w B t d s k F S):∀ j,S.lv.getD j 0≤1000000:=fun j=>Nat.le_trans (h.ext.liv.small h.good j) (by omega)
theorem clean (h:AuSt w0 w B t d s k F S):∃ H R,LogOn B S.D (Ka S.us) S.W H R∧YP B S (KW B S.us S.I H R)=[]:=by
 obtain⟨H,R,hL,ht⟩:=h.log
 exact⟨H,R,hL,YAS h.good h.ext h.dist (LogS.tells h.good.cap.ok ht h.good.cap.seg)⟩
theorem sound (h:AuSt w0 w B t d s k F S):Calls Tryz.prog 15 #[.pointer (some ⟨s,0,none⟩)] w fun e w'=>e=.returned (.bool true)∧Keep [] w w':=by
 obtain⟨H,R,hL,h0⟩:=h.clean
 have hr:=h.refs
 have hlv:=h.lives
 obtain⟨g,tt,p,m,Fd,Ft,Fw,Fm,L0,L1,hS,rfl⟩:=h.st
 have:=Yn w _ s d g tt p m Fd Ft Fw Fm L0 L1 B S H R hS hL h.good.b1 h.good.b64 h.good.many h.good.flt h.good.flen hr hlv
 simpa [h0] using this
end AuSt
theorem JAR {w0 w w1:World} {B t d s k g tt p m:Nat} {Fd Ft Fw Fm:List Nat} {L0 L1:Value} {S:PS} {I':PImage} {a b xa:Nat} (h:AuSt w0 w B t d s k (XO s g Fd Ft Fw Fm L0 L1) S)
 (hS:StoreIs w1 w0.heap.size s d g tt p m Fd Ft Fw Fm L0 L1 B { S with I:=I' }) (hbl':I'.bl=S.I.bl.set b (xa:Nat)) (hol':I'.ol=S.I.ol) (ho:∀ j,S.I.ol.getD j 0≤0) (hb:b<B) (hab:a≠b) (hxa:S.I.bl.getD a 0=(xa:Nat)) (h0:0<xa) :
 ∃ rest:List PFlt,(∀ q∈rest,1<q.1)∧(∀ w2,Keep [] w1 w2→Calls Tryz.prog 19 #[.pointer (some ⟨s,0,none⟩)] w2 fun e w'=>∃ U,e=.returned (.tuple #[U,.int .i64 0])∧w'.ownsRow w2.heap.size 59 3 U (rest.length+1) (((1,(xa-(6+4*pgs B)) / 24,max a b) :: rest).flatMap VAT)∧Keep [] w2 w') ∧
   ∀ w2,Keep [] w1 w2→Calls Tryz.prog 15 #[.pointer (some ⟨s,0,none⟩)] w2 fun e w'=>e=.returned (.bool false)∧Keep [] w2 w':=by
 obtain⟨H,R,hL,-⟩:=h.clean
 have hr:=h.refs
 have hbl:=h.good.bl
 have hr':∀ x,YAT I' x→6+4*pgs B≤x.2.toNat∧x.2.toNat<198+4*pgs B:=by
  rintro⟨c,z⟩ ⟨hz,hh⟩
  simp only at hz hh ⊢
  rw[hbl',hol',ZS _ _ _ _ (by omega)] at hh
  rcases hh with hh | hh
  · split at hh
    · exact hr (a,z) ⟨hz,.inl (hxa.trans hh)⟩
    · exact hr (c,z) ⟨hz,.inl hh⟩
  · exact hr (c,z) ⟨hz,.inr hh⟩
 have hF:YP B { S with I:=I' } (KW B S.us I' H R)=(1,(xa-(6+4*pgs B)) / 24,max a b) :: Kq B { S with I:=I' } (KW B S.us I' H R):=by
  rw[KAf]
  rw[ZAh (I:=S.I) (I':=I') (a:=a) (b:=b) (xa:=xa) h.dist ho (by omega) hab hxa h0 hbl' hol',List.singleton_append]
 refine⟨Kq B { S with I:=I' } (KW B S.us I' H R),VAE _ _ _,fun w2 hk=>?_,fun w2 hk=>?_⟩
 · have:=Zv w2 _ s d g tt p m Fd Ft Fw Fm L0 L1 B _ H R (hS.keep0 hk) hL h.good.b1 h.good.b64 h.good.many h.good.flt h.good.flen hr' h.lives
   simp only[hF,List.length_cons] at this
   exact this
 · have:=Yn w2 _ s d g tt p m Fd Ft Fw Fm L0 L1 B _ H R (hS.keep0 hk) hL h.good.b1 h.good.b64 h.good.many h.good.flt h.good.flen hr' h.lives
   simp only[hF] at this
   simpa using this
theorem ZAR {w0 w w1:World} {B t d s k g tt p m:Nat} {Fd Ft Fw Fm:List Nat} {L0 L1:Value} {S:PS} {v:Nat} (h:AuSt w0 w B t d s k (XO s g Fd Ft Fw Fm L0 L1) S) (hv:v<8)
 (hS:StoreIs w1 w0.heap.size s d g tt p m Fd Ft Fw Fm L0 L1 B { S with lv:=YH S.lv v 1 }) :
 (∀ w2,Keep [] w1 w2→Calls Tryz.prog 19 #[.pointer (some ⟨s,0,none⟩)] w2 fun e w'=>∃ U,e=.returned (.tuple #[U,.int .i64 0])∧w'.ownsRow w2.heap.size 59 3 U 1 (VAT (3,v,0))∧Keep [] w2 w') ∧
   ∀ w2,Keep [] w1 w2→Calls Tryz.prog 15 #[.pointer (some ⟨s,0,none⟩)] w2 fun e w'=>e=.returned (.bool false)∧Keep [] w2 w':=by
 obtain⟨H,R,hL,hnil⟩:=h.clean
 have hr:=h.refs
 have hl8:=h.ext.liv.len
 have hup:=fun j=>Ys S.lv v j (h.lives v) (by omega)
 have hF:YP B { S with lv:=YH S.lv v 1 } (KW B S.us S.I H R)=[(3,v,0)]:=by
  unfold YP at hnil ⊢
  simp only[List.append_eq_nil_iff] at hnil
  obtain⟨⟨⟨⟨n1,n2⟩,n3⟩,n4⟩,n5⟩:=hnil
  simp only
  rw[n1,n2,n4,n5]
  simp only[List.nil_append,List.append_nil]
  have hc:∀ j,j≤8→JK S.lv (VD B S.I) j=[]→JK (YH S.lv v 1) (VD B S.I) j=if v<j then [(3,v,0)] else []:=by
   intro j
   induction j with
   | zero=>intro _ _;rfl
   | succ j ih=>
     intro hj he
     simp only[JK,List.append_eq_nil_iff] at he ⊢
     obtain⟨e1,e2⟩:=he
     have e3:S.lv.getD j 0=(VD B S.I).countP (fun r=>r.seg == j):=by
      by_cases hh:S.lv.getD j 0=(VD B S.I).countP (fun r=>r.seg == j)
      · exact hh
      · rw[if_pos hh] at e2;simp at e2
     rw[ih (by omega) e1,hup,← e3]
     by_cases hjv:j=v
     · subst hjv
       rw[if_neg (by omega),if_pos rfl,if_pos (by omega),if_pos (by omega)];rfl
     · rw[if_neg hjv]
       by_cases hlt:v<j
       · rw[if_pos hlt,if_neg (by omega),if_pos (by omega)];rfl
       · rw[if_neg hlt,if_neg (by omega),if_neg (by omega)];rfl
  rw[hc 8 (Nat.le_refl _) n3,if_pos hv]
 have hlv:∀ j,(YH S.lv v 1).getD j 0≤1000000:=fun j=>by
  have:=h.ext.liv.small h.good j
  rw[hup];split <;> omega
 refine⟨fun w2 hk=>?_,fun w2 hk=>?_⟩
 · have:=Zv w2 _ s d g tt p m Fd Ft Fw Fm L0 L1 B _ H R (hS.keep0 hk) hL h.good.b1 h.good.b64 h.good.many h.good.flt h.good.flen hr hlv
   simp only[hF] at this
   simpa using this
 · have:=Yn w2 _ s d g tt p m Fd Ft Fw Fm L0 L1 B _ H R (hS.keep0 hk) hL h.good.b1 h.good.b64 h.good.many h.good.flt h.good.flen hr hlv
   simp only[hF] at this
   simpa using this
end
section
open Go.RowKit Go.Shelf
theorem JAO (x:Int) (w:World):Calls Tryz.prog 47 #[.int .i64 x] w fun r w'=>∃ B:Nat,r=.returned (.agg #[.int .i64 (B:Nat),.int .i64 8,.int .i64 24])∧(B:Int)=1+x % 20∧1≤B∧B≤20∧Keep [] w w':=by
 have hR:=fun W=>QP x 20 W (by omega) (by omega)
 have h1:=Int.emod_nonneg x (show (20:Int)≠0 by omega)
 have h2:=Int.emod_lt_of_pos x (show (0:Int)<20 by omega)
 obtain⟨B,hB⟩:∃ B:Nat,(B:Int)=x % 20:=⟨(x % 20).toNat,by omega⟩
 rw[← hB] at hR
 have HB:=ZB hB
 have hB20:B<20:=by omega
 clear hB h1 h2
 go_enter Tryz.func47,Tryz.ntmps47
 go_wp2_with (refine(hR _).mono ?_;clear hR;rintro r w' ⟨rfl,rfl⟩)
 have hb:=Blk.new w 27 #[.int .i64 (1+(B:Nat)),.int .i64 8,.int .i64 24]
 have g0:=hb.cell 0
 have g1:=hb.cell 1
 have g2:=hb.cell 2
 refine bodyPost_ret (v:=.agg #[.int .i64 (1+(B:Nat)),.int .i64 8,.int .i64 24]) (by simp[results,Tryz.results47,go_sem]) rfl ⟨1+B,by simp,by rw[← QA HB];simp,by omega,by omega,(Keep.refl _ _).alloc _⟩
theorem Yy (w:World):Calls Tryz.prog 19 #[.pointer none] w fun e w'=>e=.returned (.tuple #[.slice none 0 0,.int .i64 3])∧Keep [] w w':=by
 have hbx:=Boxed.new w 34 (.pointer none)
 go_enter Tryz.func19,Tryz.ntmps19
 go_wp2
 go_ret2
 exact⟨rfl,(Keep.refl _ _).alloc _⟩
theorem VAR (w:World):Calls Tryz.prog 15 #[.pointer none] w fun e w'=>e=.returned (.bool false)∧Keep [] w w':=by
 have hL:=fun W=>Yy W
 go_enter Tryz.func15,Tryz.ntmps15
 go_wp2_with (refine(hL _).mono ?_;clear hL;rintro e w1 ⟨rfl,hk1⟩)
 go_ret
 exact⟨rfl,hk1⟩
theorem KAF (w:World):Calls Tryz.prog 9 #[] w fun r w'=>r=.returned (.bool true)∧Keep [] w w':=by
 have hSm:=JAO 3 w
 have hY:=fun W=>Qj W 4 (by omega) (by omega)
 have hF9:=fun W=>Yi 9 W
 have hLn:=fun W=>Yy W
 have hSn:=fun W=>VAR W
 go_enter Tryz.func9,Tryz.ntmps9
 go_wp2_with (first
  | (go_at_call 47
     refine hSm.mono ?_
     clear hSm
     rintro e w1 ⟨B,rfl,hB,_,_,hk1⟩
     obtain rfl:B=4:=by omega
     have hY1:=hY w1
     clear hY)
  | (go_at_call 11
     refine hY1.mono ?_
     clear hY1
     rintro e w2 ⟨t,d,s,F,D,rfl,hYd,hfm⟩
     have hA2:=AuSt.new hYd hfm
     clear hYd hfm
     generalize PS.fresh 4 D=S2 at *))
 have hkd:Keep [] w2 w2.drew:=(Keep.refl _ _).drew
 refine ZT (fun X=>X.cell? ⟨t,2,none⟩=some (.pointer (some ⟨s,0,none⟩))) 8 [[0,1,2,3,4,5,6],[7]] ((hA2.keep0 hkd).cell) ?_
 simp only[PI]
 iterate 7 (refine ZH ?_;simp only[Act.put,PU])
 refine XB (by rfl) (fun K hK=>?_)
 go_wp2_with (refine(hF9 _).mono ?_;clear hF9;rintro e w3 ⟨u,rfl,hu3,hk3⟩;obtain⟨U3,c3,rfl,_⟩:=QB hu3)
 have hA3:=hA2.keep0 (hkd.trans0 hk3)
 refine hK _ _ (hA3.cell) ?_
 clear hK K
 try simp only[Act.put,PU]
 refine JB ?_
 have hWr:Calls Tryz.prog 12 #[.pointer (some ⟨s,0,none⟩),.int .i64 1,.slice U3 64 c3] w3 _:=hA3.write (by omega) 1 (by omega) 9 U3 c3 (Rd.of_own hu3) (fun x hx hm=>by have q1:=hA2.st.lt _ hm;have q2:=(own_mem hu3 (g:=x.block) (by rw[hx];simp[Value.ownBlock])).1;have:w2.drew.heap.size=w2.heap.size:=rfl;omega)
 go_wp2_with (first
  | (go_at_call 12
     refine hWr.mono ?_
     clear hWr
     rintro e w4 ⟨rfl,F4,S4,a4,hA4,-,-,-,-⟩
     have hS4:=hA4.sound
     have z4:=hA4.cell)
  | (go_at_call 15
     refine hS4.mono ?_
     clear hS4
     rintro e w5 ⟨rfl,hk5⟩
     have hA5:=hA4.keep0 hk5
     have z5:=hA5.cell))
 have hkd5:Keep [] w5 w5.drew:=(Keep.refl _ _).drew
 have hA6:=hA5.keep0 hkd5
 obtain⟨g,tt,p,m,Fd,Ft,Fw,Fm,L0,L1,hS6,hFe⟩:=hA6.st
 subst hFe
 have hTb:=TableS_is _ _ s d g tt p m Fd Ft Fw Fm L0 L1 4 S4 hS6
 refine ZT (fun X=>X.cell? ⟨t,2,none⟩=some (.pointer (some ⟨s,0,none⟩))) 9 [[0,1,2,3,5,6,7,8],[4]] (hA6.cell) ?_
 simp only[PI]
 iterate 8 (refine ZH ?_;simp only[Act.put,PU])
 refine XB (by rfl) (fun K hK=>?_)
 go_wp2_with (refine hTb.mono ?_;clear hTb;rintro e w' ⟨rfl,rfl⟩)
 refine hK _ _ (hA6.cell) ?_
 clear hK K
 try simp only[Act.put,PU]
 refine JB ?_
 have hGe:=GeomS_is _ _ s d g tt p m Fd Ft Fw Fm L0 L1 4 S4 hS6
 have hSg:Calls Tryz.prog 40 #[.pointer (some ⟨g,0,none⟩),.int .i64 2] w5.drew _:=VQ w5.drew g 4 hS6.log.geom 2 (by omega)
 obtain⟨a6,ha6⟩:∃ a,a=6+4*pgs 4+24*2:=⟨_,rfl⟩
 rw[← ha6] at hSg
 have hAd:=fun W (hk:Keep [] w5.drew W)=>JAG W _ tt g Ft S4.us S4.lv (hS6.log.tab.keep0 hk) 4 (hS6.log.geom.keep0 hk) a6 (by omega) (by omega) 1 (.inl rfl)
 rw[show (a6-(6+4*pgs 4)) / 24=2 by omega] at hAd
 have HA6:=ZB ha6
 clear ha6
 go_wp2_with (first
  | (go_at_call 20;refine hGe.mono ?_;clear hGe;rintro e w' ⟨rfl,rfl⟩)
  | (go_at_call 40;refine hSg.mono ?_;clear hSg;rintro e w6 ⟨rfl,hk6⟩)
  | (go_at_call 48
     refine(hAd _ hk6).mono ?_
     clear hAd
     rintro e w7 ⟨rfl,htb,hk7⟩
     have hA66:=hA6.keep0 hk6
     have hS7:=(((hS6.keep0 hk6).setLog ((hS6.keep0 hk6).log.setTab htb hk7) (hk7.sub (fun x hx=>by simp[hx])) (Grow.refl _ _) (Grow.refl _ _)).1)
     obtain⟨hLk,hSf⟩:=ZAR (v:=2) hA66 (by omega) hS7
     have hyd:Blk w7 t 37 _:=hA66.yard.choose_spec.choose_spec.choose_spec.keep hk7 (fun hm=>hA66.nt (by simp[XO,hm]))
     have z7:w7.cell? ⟨t,2,none⟩=some (.pointer (some ⟨s,0,none⟩)):=by simpa using hyd.cell 2
     have hkw7:Keep [] w1 w7:=hA66.keepF (hk7.sub (fun x hx=>by simp[XO,hx]))
     have hLk7:=hLk w7 (Keep.refl _ _)
     clear hLk)
  | (go_at_call 19
     first
     | (refine hLk7.mono ?_
        clear hLk7
        rintro e w8 ⟨U8,rfl,hU8,hk8⟩
        obtain⟨gU,cU,rfl,_⟩:=QD hU8 (by omega)
        have z8:w8.cell? ⟨t,2,none⟩=some (.pointer (some ⟨s,0,none⟩)):=by simpa using(hyd.keep0 hk8).cell 2
        have hSf8:=hSf w8 hk8
        clear hSf)
     | (refine(hLn _).mono ?_
        clear hLn
        rintro e w10 ⟨rfl,hk10⟩
        have hU10:=ZA (ZA hU8 hk9) hk10
        have v0:=XE (k:=0) hU10 rfl
        have v1:=XE (k:=1) hU10 rfl
        have v2:=XE (k:=2) hU10 rfl))
  | (go_at_call 15
     first
     | (refine hSf8.mono ?_
        clear hSf8
        rintro e w9 ⟨rfl,hk9⟩)
     | (refine(hSn _).mono ?_
        clear hSn
        rintro e w11 ⟨rfl,hk11⟩)))
 go_ret
 exact⟨rfl,((((hk1.trans0 hkw7).trans0 hk8).trans0 hk9).trans0 hk10).trans0 hk11⟩
end
end Go.Proofs.YthgphmfipnjllaaGreat
