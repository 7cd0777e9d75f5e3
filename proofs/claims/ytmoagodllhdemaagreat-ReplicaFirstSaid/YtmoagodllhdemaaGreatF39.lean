/-
  A part of the proof: lemmas, and contracts of functions; their conditions stand in them.
-/
import Derived.Test.YtmoagodllhdemaaGreatF38
import Derived.Test.YtmoagodllhdemaaGreatF31
import Derived.Test.YtmoagodllhdemaaGreatF30
import Derived.Test.YtmoagodllhdemaaGreatF34
import Derived.Test.YtmoagodllhdemaaGreatF01
namespace Go.Proofs.YtmoagodllhdemaaGreat
set_option linter.unusedSimpArgs false
set_option linter.unusedVariables false
set_option maxHeartbeats 2000000
set_option maxRecDepth 20000
section
open Go.RowKit
def Checked (B:Nat) (S:PS) (S':PS):Prop:=
 ∃ D1 us1 W1 D' l0 l1,Emitted B S.D S.us S.W D1 us1 W1∧MetaD (6+4*pgs B) D1 D' (2*pgs B+4)∧(∀ x∈l0,x≤1)∧(∀ x∈l1,x≤1) ∧
   S'=⟨D',Zy us1 S.lv 8,S.lv,W1,⟨S.I.bl,List.replicate S.I.bd.length false,S.I.ol,List.replicate S.I.od.length false⟩,{ S.st with gen:=S.st.gen+1 },1-S.slot,l0,l1⟩
def Forgot (B:Nat) (S:PS) (view mode:Nat) (od:List Bool):PS:=
 { S with lv:=XZ B S.lv 0 (JAv S.I.ol S.I.ol.length),I:=⟨S.I.bl,S.I.bd,Xg S.I.ol S.I.ol.length,od⟩,st:={ S.st with seq:=S.st.done,view:=view,mode:=mode } }
def Raised (B:Nat) (S:PS) (view mode:Nat) (S':PS):Prop:=∃ od,Checked B (Forgot B S view mode od) S'
theorem XAp (B s:Nat) (ol:List Int):(JAv ol ol.length).countP (YK B s)=ol.countP (YK B s):=by
 unfold JAv
 rw [List.take_of_length_le (Nat.le_refl _)]
 induction ol with
 | nil=>rfl
 | cons o ol ih=>
   rw [List.flatMap_cons,List.countP_append,ih,List.countP_cons]
   have hg:YK B s (XF o (-1))=YK B s o:=KZ (fun h=>by omega)
   rw [← hg]
   generalize XF o (-1)=g
   by_cases hgp:0<g
   · rw [if_pos hgp,List.countP_cons,List.countP_nil];omega
   · rw [if_neg hgp,YI (a:=g) (by omega)];simp
theorem Forgot.good {B:Nat} {S:PS} {k j view mode:Nat} {od:List Bool} (hg:Good B S k j):Good B (Forgot B S view mode od) k j∧VK B (Forgot B S view mode od)=VK B S∧VL B (Forgot B S view mode od)=List.replicate B none:=by
 have hol:=hg.ol
 refine ⟨⟨hg.cap,hg.now,hg.many,hg.flt,hg.flen,hg.b1,hg.b64,hg.bl,?_,hg.brefs,?_,?_,hg.epoch,Nat.le_refl _⟩,rfl,?_⟩
 · simp only [Forgot,XN,List.length_replicate];exact hol
 · intro x hx
   simp only [Forgot,XN] at hx
   exact .inl (List.eq_of_mem_replicate hx)
 · have:=hg.seq;have:=hg.done;simp only [Forgot];omega
 · unfold VL
   simp only [Forgot,XN,List.map_replicate,if_pos]
   rw [hol]
theorem Forgot.ext {B:Nat} {S:PS} {k j view mode:Nat} {od:List Bool} (hg:Good B S k j) (hx:Ext B S):Ext B (Forgot B S view mode od):=by
 have hm:=fun s=>LiveOk.small hx.liv hg s
 obtain ⟨l1,l2⟩:=VZ (B:=B) (a:=0) (zs:=JAv S.I.ol S.I.ol.length) hx.liv.len hm (by omega)
 refine ⟨hx.segs,⟨l1,fun s hs=>?_,fun i hi=>?_⟩,hx.slot,hx.lie0,hx.lie1⟩
 · simp only [Forgot]
   rw [l2 s hs,hx.liv.live s hs,XAp,YI (a:=((0:Nat):Int)) (by omega)]
   unfold VW
   simp only
   rw [XN,List.countP_replicate,YI (a := -1) (by omega)]
   simp only [Bool.false_eq_true,if_false]
   omega
 · simp only [Forgot] at hi ⊢
   rw [XN,List.getD_eq_getElem?_getD,List.getElem?_replicate] at hi
   split at hi <;> simp at hi
theorem Qg (us:List (Nat×Nat)) (lv:List Nat) (k s:Nat) (hs:s<us.length):(Zy us lv k).getD s (0,0)=if s<k∧ZAB us lv s=true then (0,(us.getD s (0,0)).2) else us.getD s (0,0):=by
 induction k with
 | zero=>rw [if_neg (by omega)];rfl
 | succ k ih=>
   simp only [Zy]
   by_cases hi:ZAB us lv k=true
   · rw [if_pos hi]
     unfold VE
     rw [List.getD_eq_getElem?_getD,List.getElem?_set]
     by_cases e:k=s
     · subst e
       rw [if_pos rfl,if_pos (by rw [QU];exact hs),if_pos ⟨by omega,hi⟩,ZAp us lv k k (Nat.le_refl _)];rfl
     · rw [if_neg e,← List.getD_eq_getElem?_getD,ih]
       by_cases h:s<k∧ZAB us lv s=true
       · rw [if_pos h,if_pos ⟨by omega,h.2⟩]
       · rw [if_neg h,if_neg (fun h'=>h ⟨by omega,h'.2⟩)]
   · rw [if_neg hi,ih]
     by_cases h:s<k∧ZAB us lv s=true
     · rw [if_pos h,if_pos ⟨by omega,h.2⟩]
     · rw [if_neg h,if_neg (fun h'=>h ⟨by
        rcases Nat.lt_or_ge s k with h1 | h1
        · exact h1
        · have:s=k:=by omega
          subst this;exact absurd h'.2 hi,h'.2⟩)]
theorem Kd {us:List (Nat×Nat)} {lv:List Nat} {s:Nat} (h:ZAB us lv s=true):(us.getD s (0,0)).1=2∧lv.getD s 0=0:=by
 simpa [ZAB] using h
theorem XAR {us:List (Nat×Nat)} {lv:List Nat} {s:Nat} (h:ZW us s):ZW (Zy us lv 8) s:=by
 obtain ⟨h1,h2,h3⟩:=h
 have hl:=QU us lv 8
 refine ⟨hl.trans h1,fun u hu=>?_,fun k hk=>?_⟩
 · obtain ⟨i,hi,rfl⟩:=List.getElem_of_mem hu
   rw [← KH hi,Qg us lv 8 i (by omega)]
   have:=h2 _ (List.getElem_mem (n:=i) (by omega))
   rw [KH (by omega)]
   split
   · exact ⟨by simp,this.2⟩
   · exact this
 · rw [← KH hk,Qg us lv 8 k (by omega)]
   rw [hl] at hk
   split
   · rename_i h
     have:=(Kd h.2).1
     rw [KH hk] at this
     have h4:=h3 k hk
     simp only
     constructor
     · intro h;omega
     · intro h;have:=h4.2 h;omega
   · rw [KH hk];exact h3 k hk
theorem KAa (us:List (Nat×Nat)) (lv:List Nat) (k:Nat) (hk:k≤us.length):JD us≤JD (Zy us lv k):=by
 induction k with
 | zero=>exact Nat.le_refl _
 | succ k ih=>
   have hi:=ih (by omega)
   simp only [Zy]
   split
   · have:=YL (Zy us lv k) k 0 (by rw [QU];omega)
     simp at this
     split at this <;> omega
   · exact hi
theorem Checked.good {B:Nat} {S S':PS} {k j:Nat} (h:Checked B S S') (hg:Good B S k j) (hx:Ext B S) (hj:j≤100000) :
 Good B S' k (j+1)∧Ext B S'∧VK B S'=VK B S∧VL B S'=VL B S∧S'.st={ S.st with gen:=S.st.gen+1 }:=by
 obtain ⟨D1,us1,W1,D',l0,l1,hE,hM,hl0,hl1,rfl⟩:=h
 have hlsn:=hg.cap.lsn
 have hpb:=QE hg.b1 hg.b64
 obtain ⟨e1,e2,e3,e4,e5,e6,e7,e8,e9,e10,e11⟩:=hg.cap.emitted hE
 have hs1:=hE.segs hx.segs (by omega)
 obtain ⟨q1,q2⟩:=hE.reads hg.cap.ok hg.now hg.many hg.cap.seg hg.cap.off
 obtain ⟨_,_,_,_,_,_,_,_,_,_,_,f1,_,_,f4⟩:=hE.facts hg.cap.ok
 have hul:=hg.cap.ul
 have hn1:D1.n=198+4*pgs B:=f1.trans hg.many
 -- what is read, and lies
 have hK:∀ x:Nat,0<x→((x:Int)∈S.I.bl∨(x:Int)∈S.I.ol)→Lies B S.us S.W x→Lies B (Zy us1 S.lv 8) W1 x∧JL B D' W1 x=JL B S.D S.W x:=by
  intro x hx0 hxm hl
  obtain ⟨b1,b2⟩:=q2 x hl
  have h8:(x-(6+4*pgs B)) / 24<8:=by have:=hl.hi;omega
  refine ⟨⟨b1.lo,b1.hi,?_,b1.here⟩,?_⟩
  · rw [Qg us1 S.lv 8 _ (by omega)]
    split
    · rename_i hi
      have h0:=(Kd hi.2).2
      rw [hx.liv.live _ h8] at h0
      have:=KAt (B:=B) (I:=S.I) (a:=(x:Int)) hxm (by omega)
      simp only [Int.toNat_natCast] at this
      omega
    · exact b1.used
  · rw [← b2]
    unfold JL
    split
    · rfl
    · exact hM.now (by rw [q1]) x b1.lo
 have hR:∀ a:Int,(a∈S.I.bl∨a∈S.I.ol)→RefOk B S a→RefOk B ⟨D',Zy us1 S.lv 8,S.lv,W1,⟨S.I.bl,List.replicate S.I.bd.length false,S.I.ol,List.replicate S.I.od.length false⟩,{ S.st with gen:=S.st.gen+1 },1-S.slot,l0,l1⟩ a ∧
  JH B ⟨D',Zy us1 S.lv 8,S.lv,W1,⟨S.I.bl,List.replicate S.I.bd.length false,S.I.ol,List.replicate S.I.od.length false⟩,{ S.st with gen:=S.st.gen+1 },1-S.slot,l0,l1⟩ a=JH B S a:=by
  intro a ha hr
  rcases hr with rfl | ⟨h0,hl⟩
  · exact ⟨.inl rfl,by unfold JH;rw [if_pos rfl,if_pos rfl]⟩
  · obtain ⟨h1,h2⟩:=hK a.toNat (by omega) (by rw [show ((a.toNat:Nat):Int)=a by omega];exact ha) hl
    refine ⟨.inr ⟨h0,h1⟩,?_⟩
    unfold JH
    rw [if_neg (by omega),if_neg (by omega)]
    exact h2
 obtain ⟨c,s,c1,c2,c3⟩:=hg.cap.cs
 refine ⟨⟨⟨e1,by simp only;rw [QU];exact e2,by simp only;rw [e3];exact hg.cap.seg,e4,?_,⟨c,s,c1,?_,?_⟩,?_,?_⟩,?_,?_,?_,?_,hg.b1,hg.b64,hg.bl,hg.ol,?_,?_,?_,?_,hg.done⟩,⟨?_,⟨hx.liv.len,hx.liv.live,hx.liv.diff⟩,by simp only;omega,hl0,hl1⟩,?_,?_,rfl⟩
 · simp only
   have hsg:=hg.cap.seg
   rw [Qg us1 S.lv 8 _ (by omega)]
   split
   · rename_i hi
     have:=(Kd hi.2).1
     omega
   · exact e6
 · have:ZV W1=W1.pos.off:=by unfold ZV;rw [if_pos e8]
   simp only
   rw [this];omega
 · have:=KAa us1 S.lv 8 (by omega)
   simp only
   omega
 · have:=hM.acts;have:=hg.cap.acts;simp only;omega
 · have:=hg.cap.lsn;simp only;omega
 · simp only
   rw [hM.n];exact hM.nlen q1
 · simp only;rw [hM.n];exact hn1
 · simp only;rw [hM.flt,f4];exact hg.flt
 · simp only;rw [hM.flt,f4,hM.n,f1];exact hg.flen
 · exact fun x hx=>(hR x (.inl hx) (hg.brefs x hx)).1
 · exact fun x hx=>(hg.orefs x hx).imp id (fun h=>(hR x (.inr hx) h).1)
 · have:=hg.seq;simp only;omega
 · have:=hg.epoch;simp only;omega
 · simp only
   rw [e3]
   exact XAR hs1
 · exact List.map_congr_left (fun x hx=>(hR x (.inl hx) (hg.brefs x hx)).2)
 · refine List.map_congr_left (fun x hx=>?_)
   split
   · rfl
   · rename_i h
     rw [(hR x (.inr hx) ((hg.orefs x hx).resolve_left h)).2]
theorem Raised.good {B:Nat} {S S':PS} {k j view mode:Nat} (h:Raised B S view mode S') (hg:Good B S k j) (hx:Ext B S) (hj:j≤100000) :
 Good B S' k (j+1)∧Ext B S'∧VK B S'=VK B S∧VL B S'=List.replicate B none∧S'.st={ S.st with seq:=S.st.done,view:=view,mode:=mode,gen:=S.st.gen+1 }∧S'.I.ol=List.replicate B (-1):=by
 obtain ⟨od,h⟩:=h
 obtain ⟨g1,g2,g3⟩:=Forgot.good (view:=view) (mode:=mode) (od:=od) hg
 obtain ⟨c1,c2,c3,c4,c5⟩:=h.good g1 (Forgot.ext hg hx) hj
 refine ⟨c1,c2,c3.trans g2,c4.trans g3,c5,?_⟩
 obtain ⟨D1,us1,W1,D',l0,l1,hE,hM,hl0,hl1,rfl⟩:=h
 simp only [Forgot,XN]
 rw [hg.ol]
end
section
open Go.RowKit Go.Shelf
end
section
open Go.RowKit Go.Shelf
end
section
open Go.RowKit Go.Shelf
section
variable (w:World) (base r s d x:Nat) (Fs Fx:List Nat) (B:Nat) (R:RS) (h:ReplicaIs w base r s d x Fs Fx B R)
include h
end
end
section
open Go.RowKit Go.Shelf
theorem JAK (w:World) (base x:Nat) (L:Value) (F:List Nat) (next:Nat) (sl:List PSlot) (h:WinIs w base x L F next sl) (n:Nat) (hn1:next≤n) (hn:n<next+sl.length) (hn2:n≤2147483647) (hq:(sl.getD (n % sl.length) PSlot.none_).is=true) (k b c e:Int) (A:Option Addr) (dl dc:Nat) :
 Calls Tryz.prog 56 #[.pointer (some ⟨x,0,none⟩),.int .i64 (n:Nat),.agg #[.int .i64 k,.int .i64 b,.int .i64 c,.int .i64 e,.slice A dl dc]] w fun r w'=>r = .returned (.int .i64 9)∧Keep [] w w':=by
 have hN:=fun W (hk:Keep [] w W)=>noneW_is W base x L F next sl (h.keep0 hk)
 have hkA:Keep [] w (w.alloc (.cells #[.int .i64 k,.int .i64 b,.int .i64 c,.int .i64 e,.slice A dl dc] 46)):=(Keep.refl _ _).alloc _
 obtain ⟨g,lc,hL,hc⟩:=h.form
 obtain ⟨k0,k1⟩:=(h.keep0 hkA).cells
 have hi:n % sl.length<sl.length:=Nat.mod_lt _ h.pos
 have hA:=fun W (hk:Keep [] w W)=>Yt W base x L F next sl (h.keep0 hk) g lc hL n (by omega)
 have hsl:=fun W (hk:Keep [] w W)=>(h.keep0 hk).slot W base x L F next sl g lc hL (n % sl.length) hi
 have hqi:sl[n % sl.length].is=true:=by rw [List.getD_eq_getElem?_getD,List.getElem?_eq_getElem hi] at hq;exact hq
 have hlt:¬ ((n:Nat):Int)<(next:Nat):=by omega
 have hge:((n:Nat):Int)<((next:Nat):Int)+(sl.length:Nat):=by omega
 rw [hL] at k0
 generalize sl[n % sl.length]=q0 at hsl hqi
 obtain ⟨q0v,q0o,q0i⟩:=q0
 simp only at hsl hqi
 subst hqi
 obtain ⟨i,hi'⟩:∃ i,i=n % sl.length:=⟨_,rfl⟩
 rw [← hi'] at hA hsl hi
 have HI:=XC hi'
 obtain ⟨m,hm⟩:∃ m,m=sl.length:=⟨_,rfl⟩
 have hm16:m≤16:=by rw [hm];exact h.few
 have hnb:=h.nb
 rw [← hm] at k0 hge
 have HM:=XC hm
 clear hq hi' hn hm hL h
 go_enter Tryz.func56,Tryz.ntmps56
 go_wp2_with (refine (hN _ hkA).mono ?_;clear hN;rintro r w' ⟨rfl,rfl⟩)
 have hA1:=hA _ hkA.drew
 refine JA (fun w'=>w'.cell? ⟨x,0,none⟩=some (.slice (some ⟨g,0,none⟩) m lc)∧w'.cell? ⟨x,1,none⟩=some (.int .i64 (next:Nat))) 11 [(0,false),(1,false),(2,false),(3,false),(4,false),(5,false),(6,false),(7,false),(8,false),(9,false),(10,false)]
  (by kernel_rfl) (by kernel_rfl) (fun _ _ d _ _ h=>by cases d <;> exact h) ⟨k0,k1⟩ ?_
 simp only [PI]
 iterate 11 (refine QB ?_ (by rfl) ?_ ?_;rotate_left;(focus (rintro W ⟨hW0,hW1⟩;go_simp;try with_reducible rfl));simp only [Act.put,PU])
 refine QC ?_
 go_wp2_with (go_at_call 117
              refine hA1.mono ?_
              clear hA1
              rintro r w1 ⟨rfl,hk1⟩
              have hk1w:=hkA.drew.trans0 hk1
              obtain ⟨s0,s1,s2,s3,s4,s5⟩:=hsl w1 hk1w)
 go_ret
 exact ⟨rfl,hk1w⟩
section
variable (w:World) (base r s d x:Nat) (Fs Fx:List Nat) (B:Nat) (R:RS) (h:ReplicaIs w base r s d x Fs Fx B R)
include h
theorem Jz (hbase:base≤w.heap.size) (k b c e m fs:Nat) (xs:List UInt8) (A:Option Addr) (cp:Nat)
 (ha:Rd w A (25+m) (bys (YE k R.S.st.view fs b c e 0 xs))) (ho:OpMay k b c e m) (hlen:xs.length=m) (hfor:b+max c 1≤B∨k=3) (hfs:1≤fs∧fs≤2147483647)
 (hn1:R.next≤fs) (hn:fs<R.next+R.sl.length) (hq:(R.sl.getD (fs % R.sl.length) PSlot.none_).is=true) (hs:R.S.st.seq≤2147483647) (he:R.S.st.epoch≤2147483647) (hd:R.S.st.done≤R.S.st.seq) :
 Calls Tryz.prog 12 #[.pointer (some ⟨r,0,none⟩),.slice A (25+m) cp] w fun e w'=>
  ∃ u,e = .returned (.tuple #[u,.int .i64 9])∧w'.ownsRow w.heap.size 5 1 u 25 (bys (YE 8 R.S.st.view R.S.st.seq 0 0 R.S.st.epoch R.S.st.done []))∧Keep [] w w':=by
 refine VAd w base r s d x Fs Fx B R h hbase k b c e m fs xs A cp ha ho hlen hfor hfs _ ?_
 intro w5 UA uc hk hu
 obtain ⟨L,hw⟩:=h.win
 refine (JAK w5 base x L Fx R.next R.sl (hw.keep0 hk) fs hn1 hn hfs.2 hq k b c e UA m uc).mono ?_
 rintro e5 w6 ⟨rfl,hk6⟩
 refine .inr (.inl ⟨rfl,?_⟩)
 refine (Kb w6 base r s d x Fs Fx B R (h.keep0 (hk.trans0 hk6)) hs he hd).mono ?_
 rintro e7 w7 ⟨u,rfl,hu7,hk7⟩
 have hkk:=(hk.trans0 hk6)
 obtain ⟨A7,c7,rfl,_⟩:=ZB hu7
 exact ⟨A7,_,c7,rfl,_,rfl,YC hu7 hkk.size,hkk.trans0 hk7⟩
end
end
end Go.Proofs.YtmoagodllhdemaaGreat
