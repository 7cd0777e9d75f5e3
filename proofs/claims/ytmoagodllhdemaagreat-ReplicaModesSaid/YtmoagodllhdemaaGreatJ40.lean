/-
  A part of the proof: lemmas, and contracts of functions; their conditions stand in them.
-/
import Derived.Test.YtmoagodllhdemaaGreatJ39
import Derived.Test.YtmoagodllhdemaaGreatJ32
import Derived.Test.YtmoagodllhdemaaGreatJ31
import Derived.Test.YtmoagodllhdemaaGreatJ38
import Derived.Test.YtmoagodllhdemaaGreatJ35
import Derived.Test.YtmoagodllhdemaaGreatJ02
import Derived.Test.YtmoagodllhdemaaGreatJ37
import Derived.Test.YtmoagodllhdemaaGreatJ17
namespace Go.Proofs.YtmoagodllhdemaaGreat
set_option maxHeartbeats 4000000
set_option maxRecDepth 40000
section
open Go.RowKit
def Checked (B:Nat) (S:PS) (S':PS):Prop:=
 ∃ D1 us1 W1 D' l0 l1,Emitted B S.D S.us S.W D1 us1 W1∧MetaD (6+4*pgs B) D1 D' (2*pgs B+4)∧(∀ x∈l0,x≤1)∧(∀ x∈l1,x≤1) ∧
   S'=⟨D',VP us1 S.lv 8,S.lv,W1,⟨S.I.bl,List.replicate S.I.bd.length false,S.I.ol,List.replicate S.I.od.length false⟩,{ S.st with gen:=S.st.gen+1 },1-S.slot,l0,l1⟩
def Forgot (B:Nat) (S:PS) (view mode:Nat) (od:List Bool):PS:=
 { S with lv:=YZ B S.lv 0 (Ql S.I.ol S.I.ol.length),I:=⟨S.I.bl,S.I.bd,Qa S.I.ol S.I.ol.length,od⟩,st:={ S.st with seq:=S.st.done,view:=view,mode:=mode } }
def Raised (B:Nat) (S:PS) (view mode:Nat) (S':PS):Prop:=∃ od,Checked B (Forgot B S view mode od) S'
theorem XAw (B s:Nat) (ol:List Int):(Ql ol ol.length).countP (ZK B s)=ol.countP (ZK B s):=by
 unfold Ql
 rw [List.take_of_length_le (Nat.le_refl _)]
 induction ol with
 | nil=>rfl
 | cons o ol ih=>
   rw [List.flatMap_cons,List.countP_append,ih,List.countP_cons]
   have hg:ZK B s (JE o (-1))=ZK B s o:=Ka (fun h=>by omega)
   rw [← hg]
   generalize JE o (-1)=g
   by_cases hgp:0<g
   · rw [if_pos hgp,List.countP_cons,List.countP_nil];omega
   · rw [if_neg hgp,JH (a:=g) (by omega)];simp
theorem Forgot.good {B:Nat} {S:PS} {k j view mode:Nat} {od:List Bool} (hg:Good B S k j):Good B (Forgot B S view mode od) k j∧KR B (Forgot B S view mode od)=KR B S∧ZR B (Forgot B S view mode od)=List.replicate B none:=by
 have hol:=hg.ol
 refine ⟨⟨hg.cap,hg.now,hg.many,hg.flt,hg.flen,hg.b1,hg.b64,hg.bl,?_,hg.brefs,?_,?_,hg.epoch,Nat.le_refl _⟩,rfl,?_⟩
 · simp only [Forgot,QN,List.length_replicate];exact hol
 · intro x hx
   simp only [Forgot,QN] at hx
   exact .inl (List.eq_of_mem_replicate hx)
 · have:=hg.seq;have:=hg.done;simp only [Forgot];omega
 · unfold ZR
   simp only [Forgot,QN,List.map_replicate,if_pos]
   rw [hol]
theorem Forgot.ext {B:Nat} {S:PS} {k j view mode:Nat} {od:List Bool} (hg:Good B S k j) (hx:Ext B S):Ext B (Forgot B S view mode od):=by
 have hm:=fun s=>LiveOk.small hx.liv hg s
 obtain ⟨l1,l2⟩:=Va (B:=B) (a:=0) (zs:=Ql S.I.ol S.I.ol.length) hx.liv.len hm (by omega)
 refine ⟨hx.segs,⟨l1,fun s hs=>?_,fun i hi=>?_⟩,hx.slot,hx.lie0,hx.lie1⟩
 · simp only [Forgot]
   rw [l2 s hs,hx.liv.live s hs,XAw,JH (a:=((0:Nat):Int)) (by omega)]
   unfold XW
   simp only
   rw [QN,List.countP_replicate,JH (a := -1) (by omega)]
   simp only [Bool.false_eq_true,if_false]
   omega
 · simp only [Forgot] at hi ⊢
   rw [QN,List.getD_eq_getElem?_getD,List.getElem?_replicate] at hi
   split at hi <;> simp at hi
theorem Qg (us:List (Nat×Nat)) (lv:List Nat) (k s:Nat) (hs:s<us.length):(VP us lv k).getD s (0,0)=if s<k∧YT us lv s=true then (0,(us.getD s (0,0)).2) else us.getD s (0,0):=by
 induction k with
 | zero=>rw [if_neg (by omega)];rfl
 | succ k ih=>
   simp only [VP]
   by_cases hi:YT us lv k=true
   · rw [if_pos hi]
     unfold QE
     rw [List.getD_eq_getElem?_getD,List.getElem?_set]
     by_cases e:k=s
     · subst e
       rw [if_pos rfl,if_pos (by rw [VO];exact hs),if_pos ⟨by omega,hi⟩,KAd us lv k k (Nat.le_refl _)];rfl
     · rw [if_neg e,← List.getD_eq_getElem?_getD,ih]
       by_cases h:s<k∧YT us lv s=true
       · rw [if_pos h,if_pos ⟨by omega,h.2⟩]
       · rw [if_neg h,if_neg (fun h'=>h ⟨by omega,h'.2⟩)]
   · rw [if_neg hi,ih]
     by_cases h:s<k∧YT us lv s=true
     · rw [if_pos h,if_pos ⟨by omega,h.2⟩]
     · rw [if_neg h,if_neg (fun h'=>h ⟨by
        rcases Nat.lt_or_ge s k with h1 | h1
        · exact h1
        · have:s=k:=by omega
          subst this;exact absurd h'.2 hi,h'.2⟩)]
theorem Qc {us:List (Nat×Nat)} {lv:List Nat} {s:Nat} (h:YT us lv s=true):(us.getD s (0,0)).1=2∧lv.getD s 0=0:=by
 simpa [YT] using h
theorem Kw {us:List (Nat×Nat)} {lv:List Nat} {s:Nat} (h:JS us s):JS (VP us lv 8) s:=by
 obtain ⟨h1,h2,h3⟩:=h
 have hl:=VO us lv 8
 refine ⟨hl.trans h1,fun u hu=>?_,fun k hk=>?_⟩
 · obtain ⟨i,hi,rfl⟩:=List.getElem_of_mem hu
   rw [← ZG hi,Qg us lv 8 i (by omega)]
   have:=h2 _ (List.getElem_mem (n:=i) (by omega))
   rw [ZG (by omega)]
   split
   · exact ⟨by simp,this.2⟩
   · exact this
 · rw [← ZG hk,Qg us lv 8 k (by omega)]
   rw [hl] at hk
   split
   · rename_i h
     have:=(Qc h.2).1
     rw [ZG hk] at this
     have h4:=h3 k hk
     simp only
     constructor
     · intro h;omega
     · intro h;have:=h4.2 h;omega
   · rw [ZG hk];exact h3 k hk
theorem ZAQ (us:List (Nat×Nat)) (lv:List Nat) (k:Nat) (hk:k≤us.length):YD us≤YD (VP us lv k):=by
 induction k with
 | zero=>exact Nat.le_refl _
 | succ k ih=>
   have hi:=ih (by omega)
   simp only [VP]
   split
   · have:=ZL (VP us lv k) k 0 (by rw [VO];omega)
     simp at this
     split at this <;> omega
   · exact hi
theorem Checked.good {B:Nat} {S S':PS} {k j:Nat} (h:Checked B S S') (hg:Good B S k j) (hx:Ext B S) (hj:j≤100000) :
 Good B S' k (j+1)∧Ext B S'∧KR B S'=KR B S∧ZR B S'=ZR B S∧S'.st={ S.st with gen:=S.st.gen+1 }:=by
 obtain ⟨D1,us1,W1,D',l0,l1,hE,hM,hl0,hl1,rfl⟩:=h
 have hlsn:=hg.cap.lsn
 have hpb:=JD hg.b1 hg.b64
 obtain ⟨e1,e2,e3,e4,e5,e6,e7,e8,e9,e10,e11⟩:=hg.cap.emitted hE
 have hs1:=hE.segs hx.segs (by omega)
 obtain ⟨q1,q2⟩:=hE.reads hg.cap.ok hg.now hg.many hg.cap.seg hg.cap.off
 obtain ⟨_,_,_,_,_,_,_,_,_,_,_,f1,_,_,f4⟩:=hE.facts hg.cap.ok
 have hul:=hg.cap.ul
 have hn1:D1.n=198+4*pgs B:=f1.trans hg.many
 -- what is read, and lies
 have hK:∀ x:Nat,0<x→((x:Int)∈S.I.bl∨(x:Int)∈S.I.ol)→Lies B S.us S.W x→Lies B (VP us1 S.lv 8) W1 x∧KM B D' W1 x=KM B S.D S.W x:=by
  intro x hx0 hxm hl
  obtain ⟨b1,b2⟩:=q2 x hl
  have h8:(x-(6+4*pgs B)) / 24<8:=by have:=hl.hi;omega
  refine ⟨⟨b1.lo,b1.hi,?_,b1.here⟩,?_⟩
  · rw [Qg us1 S.lv 8 _ (by omega)]
    split
    · rename_i hi
      have h0:=(Qc hi.2).2
      rw [hx.liv.live _ h8] at h0
      have:=XAx (B:=B) (I:=S.I) (a:=(x:Int)) hxm (by omega)
      simp only [Int.toNat_natCast] at this
      omega
    · exact b1.used
  · rw [← b2]
    unfold KM
    split
    · rfl
    · exact hM.now (by rw [q1]) x b1.lo
 have hR:∀ a:Int,(a∈S.I.bl∨a∈S.I.ol)→RefOk B S a→RefOk B ⟨D',VP us1 S.lv 8,S.lv,W1,⟨S.I.bl,List.replicate S.I.bd.length false,S.I.ol,List.replicate S.I.od.length false⟩,{ S.st with gen:=S.st.gen+1 },1-S.slot,l0,l1⟩ a ∧
  QM B ⟨D',VP us1 S.lv 8,S.lv,W1,⟨S.I.bl,List.replicate S.I.bd.length false,S.I.ol,List.replicate S.I.od.length false⟩,{ S.st with gen:=S.st.gen+1 },1-S.slot,l0,l1⟩ a=QM B S a:=by
  intro a ha hr
  rcases hr with rfl | ⟨h0,hl⟩
  · exact ⟨.inl rfl,by unfold QM;rw [if_pos rfl,if_pos rfl]⟩
  · obtain ⟨h1,h2⟩:=hK a.toNat (by omega) (by rw [show ((a.toNat:Nat):Int)=a by omega];exact ha) hl
    refine ⟨.inr ⟨h0,h1⟩,?_⟩
    unfold QM
    rw [if_neg (by omega),if_neg (by omega)]
    exact h2
 obtain ⟨c,s,c1,c2,c3⟩:=hg.cap.cs
 refine ⟨⟨⟨e1,by simp only;rw [VO];exact e2,by simp only;rw [e3];exact hg.cap.seg,e4,?_,⟨c,s,c1,?_,?_⟩,?_,?_⟩,?_,?_,?_,?_,hg.b1,hg.b64,hg.bl,hg.ol,?_,?_,?_,?_,hg.done⟩,⟨?_,⟨hx.liv.len,hx.liv.live,hx.liv.diff⟩,by simp only;omega,hl0,hl1⟩,?_,?_,rfl⟩
 · simp only
   have hsg:=hg.cap.seg
   rw [Qg us1 S.lv 8 _ (by omega)]
   split
   · rename_i hi
     have:=(Qc hi.2).1
     omega
   · exact e6
 · have:JW W1=W1.pos.off:=by unfold JW;rw [if_pos e8]
   simp only
   rw [this];omega
 · have:=ZAQ us1 S.lv 8 (by omega)
   simp only
   omega
 · have:=hM.acts;have:=hg.cap.acts;simp only;omega
 · have:=hg.cap.lsn;simp only;omega
 · simp only
   rw [hM.n];exact hM.nlen q1
 · simp only;rw [hM.n];exact hn1
 · simp only;rw [hM.flt,f4];exact hg.flt
 · simp only;rw [hM.flt,f4,hM.n,f1];exact hg.flen
 · exact fun x hx=>(hR x (.inl hx) (hg.brefs x hx)).1
 · exact fun x hx=>(hg.orefs x hx).imp id (fun h=>(hR x (.inr hx) h).1)
 · have:=hg.seq;simp only;omega
 · have:=hg.epoch;simp only;omega
 · simp only
   rw [e3]
   exact Kw hs1
 · exact List.map_congr_left (fun x hx=>(hR x (.inl hx) (hg.brefs x hx)).2)
 · refine List.map_congr_left (fun x hx=>?_)
   split
   · rfl
   · rename_i h
     rw [(hR x (.inr hx) ((hg.orefs x hx).resolve_left h)).2]
theorem Raised.good {B:Nat} {S S':PS} {k j view mode:Nat} (h:Raised B S view mode S') (hg:Good B S k j) (hx:Ext B S) (hj:j≤100000) :
 Good B S' k (j+1)∧Ext B S'∧KR B S'=KR B S∧ZR B S'=List.replicate B none∧S'.st={ S.st with seq:=S.st.done,view:=view,mode:=mode,gen:=S.st.gen+1 }∧S'.I.ol=List.replicate B (-1):=by
 obtain ⟨od,h⟩:=h
 obtain ⟨g1,g2,g3⟩:=Forgot.good (view:=view) (mode:=mode) (od:=od) hg
 obtain ⟨c1,c2,c3,c4,c5⟩:=h.good g1 (Forgot.ext hg hx) hj
 refine ⟨c1,c2,c3.trans g2,c4.trans g3,c5,?_⟩
 obtain ⟨D1,us1,W1,D',l0,l1,hE,hM,hl0,hl1,rfl⟩:=h
 simp only [Forgot,QN]
 rw [hg.ol]
end
section
open Go.RowKit Go.Shelf
theorem KAk {B:Nat} {S:PS} (ol:List Int) (h:∀ x∈ol,x = -1∨RefOk B S x):∀ x∈Ql ol ol.length,x≤0∨(6+4*pgs B≤x.toNat∧x.toNat<198+4*pgs B):=by
 intro x hx
 unfold Ql at hx
 obtain ⟨p,hp,hx⟩:=List.mem_flatMap.1 hx
 split at hx
 · simp only [List.mem_singleton] at hx
   subst hx
   exact VY (h _ (List.mem_of_mem_take hp))
 · cases hx
theorem QAP {B:Nat} {S:PS} {k j:Nat} (hp:S.W.pos.Ok) (hg:Good B S k j) (hx:Ext B S) (hj:j≤20000) (hgen:S.st.gen≤100000) (hv:1≤S.st.view∧S.st.view≤2147483647) (hm:S.st.mode=1∨S.st.mode=2) :
 ∀ D2 us2 W2,Emitted B S.D S.us S.W D2 us2 W2→PReg.May ⟨S.st.gen+1,S.st.view,S.st.mode,S.st.epoch,S.st.seq,S.st.done,W2.pos⟩∧JS (VP us2 S.lv 8) W2.pos.seg∧D2.acts≤1000100:=by
 intro D2 us2 W2 hE
 obtain ⟨e1,e2,e3,e4,e5,e6,e7,e8,e9,e10,e11⟩:=hg.cap.emitted hE
 obtain ⟨_,_,_,f4,f5,_,_,_,_,_,f11,_⟩:=hE.facts hg.cap.ok
 obtain ⟨p1,p2,p3,p4,p5⟩:=hp
 have hlsn:=hg.cap.lsn
 have hac:=hg.cap.acts
 have hs:=hg.seq
 have he:=hg.epoch
 have hd:=hg.done
 refine ⟨⟨⟨by simp only;omega,by simp only;omega⟩,hv,hm,by simp only;omega,by simp only;omega,hd,⟨by simp only;omega,e4,⟨by simp only;omega,by simp only;omega⟩,?_,by simp only;omega⟩⟩,?_,by omega⟩
 · simp only
   rcases f11 with h | h
   · omega
   · exact h
 · rw [e3]
   exact Kw (hE.segs hx.segs (by omega))
theorem JAQ (w:World) (base s d:Nat) (F:List Nat) (B:Nat) (S:PS) (h:StoreAt w base s d F B S) (k j:Nat) (hg:Good B S k j) (hx:Ext B S) (hj:j≤20000) (hm:S.st.mode=1) (hgen:S.st.gen≤100000) (view mode:Nat) (hv:S.st.view<view) (hv2:view≤2147483647) (hmo:mode=1∨mode=2) :
 Calls Tryz.prog 14 #[.pointer (some ⟨s,0,none⟩),.int .i64 (view:Nat),.int .i64 (mode:Nat)] w fun r w'=>r = .returned (.int .i64 0)∧∃ F' S',StoreAt w' base s d F' B S'∧Raised B S view mode S'∧Keep F w w'∧Grow w F F':=by
 obtain ⟨g,t,p,m,Fd,Ft,Fw,Fm,L0,L1,h,rfl⟩:=h
 have hFo:=KAZ w base m Fm S.I h.img
 have hgo:=KAk S.I.ol hg.orefs
 have hgl:=Xh S.I.ol S.I.ol.length
 have hol:=hg.ol
 have hb64:=hg.b64
 have hOf:=Kh w base d Fd S.D h.log.disk
 rw [h.log.off] at hOf
 have hblk:=h.blk
 have hpos:=h.log.pos
 obtain ⟨c0,c1,c2,c3,c4,c5,c6,c7,c8,c9,c10,c11,c12,c13,c14,c15,c16,c17⟩:=KC hblk
 obtain ⟨fg,hfg⟩:∃ z,z=Ql S.I.ol S.I.ol.length:=⟨_,rfl⟩
 rw [← hfg] at hFo hgo hgl
 rw [hm] at c5
 have HFG:=KB hfg
 clear hfg
 have hvI:¬ ((view:Nat):Int)≤(S.st.view:Nat):=by omega
 have hv1:¬ ((view:Nat):Int)<1:=by omega
 have hv2I:¬ (2147483647:Int)<((view:Nat):Int):=by omega
 have hFt:∀ x∈Ft,x<w.heap.size:=fun x hx=>h.log.tab.lt x hx
 have hmF:s∉Fm:=fun hm=>h.aps (by simp [hm])
 have hsT:s∉Ft:=fun hm=>h.aps (by simp [hm])
 have HOL:=KB hol
 clear hol
 go_enter Tryz.func14,Tryz.ntmps14
 rcases hmo with rfl | rfl
 all_goals
  go_wp2_with (first
   | (go_at_call 61
      refine hOf.mono ?_
      clear hOf
      rintro e w' ⟨rfl,rfl⟩)
   | (go_at_call 63
      refine hFo.mono ?_
      clear hFo c0 c1 c2 c3 c4 c5 c6 c7 c8 c9 c10 c11 c12 c13 c14 c15 c16 c17
      rintro e w1 ⟨G,od,rfl,hG,hi1,hk1⟩
      obtain ⟨GA,gc,rfl,_⟩:=ZB hG
      have hI1:=h.setImg hi1 (by simp) hk1
      have hLv:=Yg w1 base s d g t p m Fd Ft Fw Fm L0 L1 B _ hI1 0 (.inl rfl) GA fg.length gc fg (Rd.of_own hG) hgo (by have:=XA HOL;omega) (fun x hx hm=>by
       have:=hFt _ hm
       have:=(own_mem hG (g:=x.block) (by rw [hx];simp [Value.ownBlock])).1
       omega))
   | (go_at_call 62
      refine hLv.mono ?_
      clear hLv
      rintro e w2 ⟨rfl,hI2,hk2⟩
      have hblk2:=hI2.blk
      have f5:=hblk2.frozen 5
      have f6:=hblk2.frozen 6
      have f8:=hblk2.frozen 8
      obtain ⟨c0,c1,c2,c3,c4,c5,c6,c7,c8,c9,c10,c11,c12,c13,c14,c15,c16,c17⟩:=KC hblk2))
  have hks:∀ z:Int,Keep [s] w2 (((w2.setCell ⟨s,8,none⟩ (.int .i64 (S.st.done:Nat))).setCell ⟨s,6,none⟩ (.int .i64 (view:Nat))).setCell ⟨s,5,none⟩ (.int .i64 z)):=fun z=>
   (((Keep.refl [s] w2).setCell (p:=⟨s,8,none⟩) (.inl (by simp)) _).setCell (p:=⟨s,6,none⟩) (.inl (by simp)) _).setCell (p:=⟨s,5,none⟩) (.inl (by simp)) _
  have hI3:∀ z:Nat,StoreIs (((w2.setCell ⟨s,8,none⟩ (.int .i64 (S.st.done:Nat))).setCell ⟨s,6,none⟩ (.int .i64 (view:Nat))).setCell ⟨s,5,none⟩ (.int .i64 (z:Nat))) base s d g t p m Fd Ft Fw Fm L0 L1 B (Forgot B S view z od):=fun z=>by
   have hbz:=((hblk2.set 8 (.int .i64 (S.st.done:Nat))).set 6 (.int .i64 (view:Nat))).set 5 (.int .i64 (z:Nat))
   have:=hI2.setSt { S.st with seq:=S.st.done,view:=view,mode:=z } (by simpa using hbz) (hks z)
   unfold Forgot
   rw [← XA HFG]
   exact this
  have hC3:∀ z:Nat,z=1∨z=2→_:=fun z hz=>Xs _ base s d g t p m Fd Ft Fw Fm L0 L1 B (Forgot B S view z od) (hI3 z) hg.cap.ok (by have:=hg.cap.lsn;simp only [Forgot];omega) (by have:=hg.cap.acts;simp only [Forgot];omega) hx.slot hx.lie0 hx.lie1
   (QAP hpos (Forgot.good hg).1 (Forgot.ext hg hx) hj hgen ⟨by simp only [Forgot];omega,hv2⟩ hz)
  have h31:=hC3 1 (.inl rfl)
  have h32:=hC3 2 (.inr rfl)
  clear hC3 c0 c1 c2 c3 c4 c5 c6 c7 c8 c9 c10 c11 c12 c13 c14 c15 c16 c17 hI2
  go_wp2_with (first
   | (refine h31.mono ?_;clear h31 h32;rintro e w3 ⟨u,n,ns,Fd',Fw',L0',L1',D1,us1,W1,D',l0,l1,rfl,hu,hE,hM,hl0,hl1,hS3,hk3,hg3⟩)
   | (refine h32.mono ?_;clear h31 h32;rintro e w3 ⟨u,n,ns,Fd',Fw',L0',L1',D1,us1,W1,D',l0,l1,rfl,hu,hE,hM,hl0,hl1,hS3,hk3,hg3⟩))
  go_ret
  have hsub:∀ {l:List Nat} {u v:World},(∀ x∈l,x=s∨x∈Fd∨x∈Ft∨x∈Fw∨x∈Fm)→Keep l u v→Keep (KJ s g Fd Ft Fw Fm L0 L1) u v:=fun hl hk=>hk.sub (XAr hl)
  have K1:=hsub (by intro x hx;simp [hx]) hk1
  have K2:=K1.trans (hsub (by intro x hx;simp [hx]) hk2) (fun x hx => .inl hx)
  have K3:=fun z=>K2.trans (hsub (by intro x hx;simp at hx;simp [hx]) (hks z)) (fun x hx => .inl hx)
  have K4:=(K3 _).trans hk3 (fun x hx => .inl hx)
  exact ⟨rfl,_,_,⟨g,t,p,m,Fd',Ft,Fw',Fm,L0',L1',hS3,rfl⟩,⟨od,D1,us1,W1,D',l0,l1,hE,hM,hl0,hl1,rfl⟩,K4,hg3.keep (K3 _)⟩
end
section
open Go.RowKit Go.Shelf
end
section
open Go.RowKit Go.Shelf
section
variable (w:World) (base r s d x:Nat) (Fs Fx:List Nat) (B:Nat) (R:RS) (h:ReplicaIs w base r s d x Fs Fx B R)
include h
end
end
section
open Go.RowKit Go.Shelf
section
variable (w:World) (base r s d x:Nat) (Fs Fx:List Nat) (B:Nat) (R:RS) (h:ReplicaIs w base r s d x Fs Fx B R)
include h
end
end
section
open Go.RowKit Go.Shelf
def Unready (r z:Nat) (w:World):Prop:=∀ W,Keep [] w W→Calls Tryz.prog 52 #[.pointer (some ⟨r,0,none⟩)] W fun e w'=>e = .returned (.int .i64 z)∧Keep [] W w'
theorem Unready.keep0 {r z:Nat} {w w':World} (h:Unready r z w) (hk:Keep [] w w'):Unready r z w':=fun W hW=>h W (hk.trans0 hW)
theorem KAB (w:World) (base r s d x:Nat) (Fs:List Nat) (B:Nat) (S:PS) (hb:Blk w r 104 #[.pointer (some ⟨s,0,none⟩),.pointer (some ⟨x,0,none⟩)]) (h:StoreAt w base s d Fs B S) (hm:S.st.mode=2):Unready r 7 w:=by
 intro W hW
 replace h:=h.keep0 hW
 replace hb:=hb.keep0 hW
 have hS:=XL W base s d Fs B S h
 have hD:Calls Tryz.prog 111 #[.pointer (some ⟨s,0,none⟩)] W fun e w'=>e = .returned (.pointer (some ⟨d,0,none⟩))∧W=w':=by
  obtain ⟨g,t,p,m,Fd,Ft,Fw,Fm,L0,L1,h2,hf⟩:=h
  exact DiskS_is W base s d g t p m Fd Ft Fw Fm L0 L1 B S h2
 have hO:Calls Tryz.prog 61 #[.pointer (some ⟨d,0,none⟩)] W fun e w'=>e = .returned (.bool false)∧W=w':=by
  obtain ⟨g,t,p,m,Fd,Ft,Fw,Fm,L0,L1,h2,hf⟩:=h
  have:=Kh W base d Fd S.D h2.log.disk
  rwa [h2.log.off] at this
 have c0:W.cell? ⟨r,0,none⟩=some (.pointer (some ⟨s,0,none⟩)):=by simpa using hb.cell 0
 rw [hm] at hS
 clear hm
 have hfd:=fun (a b c e f g h' i j:Value) W=>XF (P:=Tryz.prog) Tryz.underlying51 0 rfl Tryz.isAgg3 #[.int .i64 2,a,b,c,e,f,g,h',i,j] rfl W
 go_enter Tryz.func52,Tryz.ntmps52
 go_wp2_with (first
  | (go_at_call 111;refine hD.mono ?_;clear hD;rintro e w' ⟨rfl,rfl⟩)
  | (go_at_call 61;refine hO.mono ?_;clear hO;rintro e w' ⟨rfl,rfl⟩)
  | (go_at_call 17;refine hS.mono ?_;clear hS;rintro e w1 ⟨rfl,hk1⟩))
 go_ret
 exact ⟨rfl,hk1⟩
theorem JAM (w:World) (r s d x:Nat) (hb:Blk w r 104 #[.pointer (some ⟨s,0,none⟩),.pointer (some ⟨x,0,none⟩)])
 (hD:∀ W,Keep [] w W→Calls Tryz.prog 111 #[.pointer (some ⟨s,0,none⟩)] W fun e w'=>e = .returned (.pointer (some ⟨d,0,none⟩))∧W=w')
 (hO:∀ W,Keep [] w W→Calls Tryz.prog 61 #[.pointer (some ⟨d,0,none⟩)] W fun e w'=>e = .returned (.bool true)∧W=w'):Unready r 3 w:=by
 intro W hW
 replace hb:=hb.keep0 hW
 replace hD:=hD W hW
 replace hO:=hO W hW
 have c0:W.cell? ⟨r,0,none⟩=some (.pointer (some ⟨s,0,none⟩)):=by simpa using hb.cell 0
 go_enter Tryz.func52,Tryz.ntmps52
 go_wp2_with (first
  | (go_at_call 111;refine hD.mono ?_;clear hD;rintro e w' ⟨rfl,rfl⟩)
  | (go_at_call 61;refine hO.mono ?_;clear hO;rintro e w' ⟨rfl,rfl⟩))
 go_ret
 exact ⟨rfl,Keep.refl _ _⟩
theorem KAF (w:World) (r z:Nat) (h:Unready r z w) (hz:1≤z) (k v b c e dn fs:Nat) (xs:List UInt8) (A:Option Addr) (n cp:Nat) (hm:FrMay k v fs b c e dn xs) (ha:Rd w A n (bys (KE k v fs b c e dn xs))) :
 Calls Tryz.prog 12 #[.pointer (some ⟨r,0,none⟩),.slice A n cp] w fun e w'=>e = .returned (.tuple #[.slice none 0 0,.int .i64 z])∧Keep [] w w':=by
 have hD:=VT k v fs b c e dn xs hm A n cp w ha
 have hz1:¬ ((z:Nat):Int)=0:=by omega
 clear ha hm
 go_enter Tryz.func12,Tryz.ntmps12
 go_wp2_with (first
  | (go_at_call 43
     refine hD.mono ?_
     clear hD
     rintro e1 w1 ⟨UA,uc,rfl,hu,hk1⟩
     have hkA:Keep [] w (w1.alloc (.cells #[.int .i64 k,.int .i64 v,.int .i64 fs,.int .i64 b,.int .i64 c,.int .i64 e,.int .i64 dn,.slice UA xs.length uc] 85)):=hk1.alloc _)
  | (go_at_call 52
     refine (h _ hkA).mono ?_
     rintro e2 w2 ⟨rfl,hk2⟩
     replace hkA:=hkA.trans0 hk2))
 go_ret2
 exact ⟨rfl,hkA⟩
theorem Kt (w:World) (r z:Nat) (h:Unready r z w) (hz:1≤z):Calls Tryz.prog 21 #[.pointer (some ⟨r,0,none⟩)] w fun e w'=>e = .returned (.tuple #[.slice none 0 0,.int .i64 z])∧Keep [] w w':=by
 have hR:=h w (Keep.refl _ _)
 have hz1:¬ ((z:Nat):Int)=0:=by omega
 go_enter Tryz.func21,Tryz.ntmps21
 go_wp2_with (refine hR.mono ?_;clear hR;rintro e w2 ⟨rfl,hk2⟩)
 go_ret2
 exact ⟨rfl,hk2⟩
theorem Vu (w:World) (r s x:Nat) (hb:Blk w r 104 #[.pointer (some ⟨s,0,none⟩),.pointer (some ⟨x,0,none⟩)]):Calls Tryz.prog 22 #[.pointer (some ⟨r,0,none⟩)] w fun e w'=>e = .returned (.pointer (some ⟨s,0,none⟩))∧w=w':=by
 have c0:w.cell? ⟨r,0,none⟩=some (.pointer (some ⟨s,0,none⟩)):=by simpa using hb.cell 0
 go_enter Tryz.func22,Tryz.ntmps22
 go_wp2
 go_ret
 exact ⟨rfl,rfl⟩
end
section
open Go.RowKit Go.Shelf
def YAv (s d:Nat) (S:PS) (w:World):Prop:=∀ W,Keep [] w W →
 Calls Tryz.prog 17 #[.pointer (some ⟨s,0,none⟩)] W (fun e w'=>e = .returned (.agg (QBC S).toArray)∧Keep [] W w') ∧
 Calls Tryz.prog 111 #[.pointer (some ⟨s,0,none⟩)] W (fun e w'=>e = .returned (.pointer (some ⟨d,0,none⟩))∧W=w')
theorem StoreIs.ans {w w':World} {base s d g t p m:Nat} {Fd Ft Fw Fm:List Nat} {L0 L1:Value} {B:Nat} {S:PS} (h:StoreIs w base s d g t p m Fd Ft Fw Fm L0 L1 B S) (hk:Keep [d] w w'):YAv s d S w':=by
 intro W hW
 obtain ⟨D1,D2,D3,D4,hd⟩:=h.log.disk
 have hdF:d∈Fd:=by rw [hd.foot];simp
 have hs:s∉[d]:=fun hm=>h.aps (by simp at hm;subst hm;simp [hdF])
 have hb:=(h.blk.keep hk hs).keep0 hW
 have ht:=(h.log.tab.keep hk (fun x hx hm=>by simp at hm;subst hm;exact h.log.dt _ hdF hx)).keep0 hW
 have hi:=(h.img.keep hk (fun x hx hm=>by simp at hm;subst hm;exact h.apm _ hx (by simp [hdF]))).keep0 hW
 refine ⟨Zo W base s d g t p m Ft Fm L0 L1 S hb ht hi,?_⟩
 obtain ⟨c0,c1,c2,c3,c4,c5,c6,c7,c8,c9,c10,c11,c12,c13,c14,c15,c16,c17⟩:=KC hb
 clear hb ht hi h hd
 go_enter Tryz.func111,Tryz.ntmps111
 go_wp2
 go_ret
 exact ⟨rfl,rfl⟩
theorem StoreAt.offs {w:World} {base s d:Nat} {F:List Nat} {B:Nat} {S:PS} (h:StoreAt w base s d F B S) (ha:S.D.acts≤1000000000):d∈F∧YAv s d S w ∧
 Calls Tryz.prog 15 #[.pointer (some ⟨d,0,none⟩),.int .i64 0] w (fun e w1=>e = .returned (.tuple #[])∧Keep [d] w w1 ∧
  Calls Tryz.prog 16 #[.pointer (some ⟨d,0,none⟩)] w1 (fun e w2=>e = .returned (.int .i64 3)∧Keep [d] w w2∧YAv s d S w2 ∧
   ∀ W,Keep [] w2 W→Calls Tryz.prog 61 #[.pointer (some ⟨d,0,none⟩)] W (fun e w'=>e = .returned (.bool true)∧W=w')∧Calls Tryz.prog 18 #[.pointer (some ⟨d,0,none⟩)] W (fun e w'=>e = .returned (.int .i64 ((S.D.acts+1:Nat):Int))∧W=w'))):=by
 obtain ⟨g,t,p,m,Fd,Ft,Fw,Fm,L0,L1,h,rfl⟩:=h
 have hdF:d∈Fd:=by obtain ⟨D1,D2,D3,D4,hd⟩:=h.log.disk;rw [hd.foot];simp
 refine ⟨by simp [KJ,hdF],h.ans (Keep.refl _ _),?_⟩
 refine (KAi w base d Fd S.D h.log.disk).mono ?_
 rintro e w1 ⟨rfl,hd1,hk1⟩
 refine ⟨rfl,hk1,?_⟩
 refine (QAe w1 base d Fd _ hd1 h.log.off rfl ha).mono ?_
 rintro e w2 ⟨rfl,hd2,hk2⟩
 have hk:=hk1.trans hk2 (fun x hx => .inl hx)
 exact ⟨rfl,hk,h.ans hk,fun W hW=>⟨Kh W base d Fd _ (hd2.keep0 hW),XAR W base d Fd _ (hd2.keep0 hW)⟩⟩
end
end Go.Proofs.YtmoagodllhdemaaGreat
