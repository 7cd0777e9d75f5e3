/-
  A part of the proof: lemmas, and contracts of functions; their conditions stand in them.
-/
import Derived.Test.YtmoagodllhdemaaGreatH38
import Derived.Test.YtmoagodllhdemaaGreatH31
import Derived.Test.YtmoagodllhdemaaGreatH30
import Derived.Test.YtmoagodllhdemaaGreatH37
import Derived.Test.YtmoagodllhdemaaGreatH34
import Derived.Test.YtmoagodllhdemaaGreatH01
import Derived.Test.YtmoagodllhdemaaGreatH36
import Derived.Test.YtmoagodllhdemaaGreatH33
import Derived.Test.YtmoagodllhdemaaGreatH32
namespace Go.Proofs.YtmoagodllhdemaaGreat
set_option linter.unusedSimpArgs false
set_option linter.unusedVariables false
set_option maxHeartbeats 4000000
set_option maxRecDepth 40000
section
open Go.RowKit
def Checked (B:Nat) (S:PS) (S':PS):Prop:=
 ∃ D1 us1 W1 D' l0 l1,Emitted B S.D S.us S.W D1 us1 W1∧MetaD (6+4*pgs B) D1 D' (2*pgs B+4)∧(∀ x∈l0,x≤1)∧(∀ x∈l1,x≤1) ∧
   S'=⟨D',XR us1 S.lv 8,S.lv,W1,⟨S.I.bl,List.replicate S.I.bd.length false,S.I.ol,List.replicate S.I.od.length false⟩,{ S.st with gen:=S.st.gen+1 },1-S.slot,l0,l1⟩
def Forgot (B:Nat) (S:PS) (view mode:Nat) (od:List Bool):PS:=
 { S with lv:=Xb B S.lv 0 (Qn S.I.ol S.I.ol.length),I:=⟨S.I.bl,S.I.bd,Jb S.I.ol S.I.ol.length,od⟩,st:={ S.st with seq:=S.st.done,view:=view,mode:=mode } }
def Raised (B:Nat) (S:PS) (view mode:Nat) (S':PS):Prop:=∃ od,Checked B (Forgot B S view mode od) S'
theorem KAz (B s:Nat) (ol:List Int):(Qn ol ol.length).countP (QL B s)=ol.countP (QL B s):=by
 unfold Qn
 rw [List.take_of_length_le (Nat.le_refl _)]
 induction ol with
 | nil=>rfl
 | cons o ol ih=>
   rw [List.flatMap_cons,List.countP_append,ih,List.countP_cons]
   have hg:QL B s (ZF o (-1))=QL B s o:=Yb (fun h=>by omega)
   rw [← hg]
   generalize ZF o (-1)=g
   by_cases hgp:0<g
   · rw [if_pos hgp,List.countP_cons,List.countP_nil];omega
   · rw [if_neg hgp,JI (a:=g) (by omega)];simp
theorem Forgot.good {B:Nat} {S:PS} {k j view mode:Nat} {od:List Bool} (hg:Good B S k j):Good B (Forgot B S view mode od) k j∧ZK B (Forgot B S view mode od)=ZK B S∧ZS B (Forgot B S view mode od)=List.replicate B none:=by
 have hol:=hg.ol
 refine ⟨⟨hg.cap,hg.now,hg.many,hg.flt,hg.flen,hg.b1,hg.b64,hg.bl,?_,hg.brefs,?_,?_,hg.epoch,Nat.le_refl _⟩,rfl,?_⟩
 · simp only [Forgot,YO,List.length_replicate];exact hol
 · intro x hx
   simp only [Forgot,YO] at hx
   exact .inl (List.eq_of_mem_replicate hx)
 · have:=hg.seq;have:=hg.done;simp only [Forgot];omega
 · unfold ZS
   simp only [Forgot,YO,List.map_replicate,if_pos]
   rw [hol]
theorem Forgot.ext {B:Nat} {S:PS} {k j view mode:Nat} {od:List Bool} (hg:Good B S k j) (hx:Ext B S):Ext B (Forgot B S view mode od):=by
 have hm:=fun s=>LiveOk.small hx.liv hg s
 obtain ⟨l1,l2⟩:=Kc (B:=B) (a:=0) (zs:=Qn S.I.ol S.I.ol.length) hx.liv.len hm (by omega)
 refine ⟨hx.segs,⟨l1,fun s hs=>?_,fun i hi=>?_⟩,hx.slot,hx.lie0,hx.lie1⟩
 · simp only [Forgot]
   rw [l2 s hs,hx.liv.live s hs,KAz,JI (a:=((0:Nat):Int)) (by omega)]
   unfold ZX
   simp only
   rw [YO,List.countP_replicate,JI (a := -1) (by omega)]
   simp only [Bool.false_eq_true,if_false]
   omega
 · simp only [Forgot] at hi ⊢
   rw [YO,List.getD_eq_getElem?_getD,List.getElem?_replicate] at hi
   split at hi <;> simp at hi
theorem Jh (us:List (Nat×Nat)) (lv:List Nat) (k s:Nat) (hs:s<us.length):(XR us lv k).getD s (0,0)=if s<k∧QV us lv s=true then (0,(us.getD s (0,0)).2) else us.getD s (0,0):=by
 induction k with
 | zero=>rw [if_neg (by omega)];rfl
 | succ k ih=>
   simp only [XR]
   by_cases hi:QV us lv k=true
   · rw [if_pos hi]
     unfold VE
     rw [List.getD_eq_getElem?_getD,List.getElem?_set]
     by_cases e:k=s
     · subst e
       rw [if_pos rfl,if_pos (by rw [XQ];exact hs),if_pos ⟨by omega,hi⟩,ZAV us lv k k (Nat.le_refl _)];rfl
     · rw [if_neg e,← List.getD_eq_getElem?_getD,ih]
       by_cases h:s<k∧QV us lv s=true
       · rw [if_pos h,if_pos ⟨by omega,h.2⟩]
       · rw [if_neg h,if_neg (fun h'=>h ⟨by omega,h'.2⟩)]
   · rw [if_neg hi,ih]
     by_cases h:s<k∧QV us lv s=true
     · rw [if_pos h,if_pos ⟨by omega,h.2⟩]
     · rw [if_neg h,if_neg (fun h'=>h ⟨by
        rcases Nat.lt_or_ge s k with h1 | h1
        · exact h1
        · have:s=k:=by omega
          subst this;exact absurd h'.2 hi,h'.2⟩)]
theorem Jf {us:List (Nat×Nat)} {lv:List Nat} {s:Nat} (h:QV us lv s=true):(us.getD s (0,0)).1=2∧lv.getD s 0=0:=by
 simpa [QV] using h
theorem Qy {us:List (Nat×Nat)} {lv:List Nat} {s:Nat} (h:YT us s):YT (XR us lv 8) s:=by
 obtain ⟨h1,h2,h3⟩:=h
 have hl:=XQ us lv 8
 refine ⟨hl.trans h1,fun u hu=>?_,fun k hk=>?_⟩
 · obtain ⟨i,hi,rfl⟩:=List.getElem_of_mem hu
   rw [← VH hi,Jh us lv 8 i (by omega)]
   have:=h2 _ (List.getElem_mem (n:=i) (by omega))
   rw [VH (by omega)]
   split
   · exact ⟨by simp,this.2⟩
   · exact this
 · rw [← VH hk,Jh us lv 8 k (by omega)]
   rw [hl] at hk
   split
   · rename_i h
     have:=(Jf h.2).1
     rw [VH hk] at this
     have h4:=h3 k hk
     simp only
     constructor
     · intro h;omega
     · intro h;have:=h4.2 h;omega
   · rw [VH hk];exact h3 k hk
theorem YAZ (us:List (Nat×Nat)) (lv:List Nat) (k:Nat) (hk:k≤us.length):ZE us≤ZE (XR us lv k):=by
 induction k with
 | zero=>exact Nat.le_refl _
 | succ k ih=>
   have hi:=ih (by omega)
   simp only [XR]
   split
   · have:=YM (XR us lv k) k 0 (by rw [XQ];omega)
     simp at this
     split at this <;> omega
   · exact hi
theorem Checked.good {B:Nat} {S S':PS} {k j:Nat} (h:Checked B S S') (hg:Good B S k j) (hx:Ext B S) (hj:j≤100000) :
 Good B S' k (j+1)∧Ext B S'∧ZK B S'=ZK B S∧ZS B S'=ZS B S∧S'.st={ S.st with gen:=S.st.gen+1 }:=by
 obtain ⟨D1,us1,W1,D',l0,l1,hE,hM,hl0,hl1,rfl⟩:=h
 have hlsn:=hg.cap.lsn
 have hpb:=JE hg.b1 hg.b64
 obtain ⟨e1,e2,e3,e4,e5,e6,e7,e8,e9,e10,e11⟩:=hg.cap.emitted hE
 have hs1:=hE.segs hx.segs (by omega)
 obtain ⟨q1,q2⟩:=hE.reads hg.cap.ok hg.now hg.many hg.cap.seg hg.cap.off
 obtain ⟨_,_,_,_,_,_,_,_,_,_,_,f1,_,_,f4⟩:=hE.facts hg.cap.ok
 have hul:=hg.cap.ul
 have hn1:D1.n=198+4*pgs B:=f1.trans hg.many
 -- what is read, and lies
 have hK:∀ x:Nat,0<x→((x:Int)∈S.I.bl∨(x:Int)∈S.I.ol)→Lies B S.us S.W x→Lies B (XR us1 S.lv 8) W1 x∧XM B D' W1 x=XM B S.D S.W x:=by
  intro x hx0 hxm hl
  obtain ⟨b1,b2⟩:=q2 x hl
  have h8:(x-(6+4*pgs B)) / 24<8:=by have:=hl.hi;omega
  refine ⟨⟨b1.lo,b1.hi,?_,b1.here⟩,?_⟩
  · rw [Jh us1 S.lv 8 _ (by omega)]
    split
    · rename_i hi
      have h0:=(Jf hi.2).2
      rw [hx.liv.live _ h8] at h0
      have:=ZAv (B:=B) (I:=S.I) (a:=(x:Int)) hxm (by omega)
      simp only [Int.toNat_natCast] at this
      omega
    · exact b1.used
  · rw [← b2]
    unfold XM
    split
    · rfl
    · exact hM.now (by rw [q1]) x b1.lo
 have hR:∀ a:Int,(a∈S.I.bl∨a∈S.I.ol)→RefOk B S a→RefOk B ⟨D',XR us1 S.lv 8,S.lv,W1,⟨S.I.bl,List.replicate S.I.bd.length false,S.I.ol,List.replicate S.I.od.length false⟩,{ S.st with gen:=S.st.gen+1 },1-S.slot,l0,l1⟩ a ∧
  YI B ⟨D',XR us1 S.lv 8,S.lv,W1,⟨S.I.bl,List.replicate S.I.bd.length false,S.I.ol,List.replicate S.I.od.length false⟩,{ S.st with gen:=S.st.gen+1 },1-S.slot,l0,l1⟩ a=YI B S a:=by
  intro a ha hr
  rcases hr with rfl | ⟨h0,hl⟩
  · exact ⟨.inl rfl,by unfold YI;rw [if_pos rfl,if_pos rfl]⟩
  · obtain ⟨h1,h2⟩:=hK a.toNat (by omega) (by rw [show ((a.toNat:Nat):Int)=a by omega];exact ha) hl
    refine ⟨.inr ⟨h0,h1⟩,?_⟩
    unfold YI
    rw [if_neg (by omega),if_neg (by omega)]
    exact h2
 obtain ⟨c,s,c1,c2,c3⟩:=hg.cap.cs
 refine ⟨⟨⟨e1,by simp only;rw [XQ];exact e2,by simp only;rw [e3];exact hg.cap.seg,e4,?_,⟨c,s,c1,?_,?_⟩,?_,?_⟩,?_,?_,?_,?_,hg.b1,hg.b64,hg.bl,hg.ol,?_,?_,?_,?_,hg.done⟩,⟨?_,⟨hx.liv.len,hx.liv.live,hx.liv.diff⟩,by simp only;omega,hl0,hl1⟩,?_,?_,rfl⟩
 · simp only
   have hsg:=hg.cap.seg
   rw [Jh us1 S.lv 8 _ (by omega)]
   split
   · rename_i hi
     have:=(Jf hi.2).1
     omega
   · exact e6
 · have:JX W1=W1.pos.off:=by unfold JX;rw [if_pos e8]
   simp only
   rw [this];omega
 · have:=YAZ us1 S.lv 8 (by omega)
   simp only
   omega
 · have:=hM.acts;have:=hg.cap.acts;simp only;omega
 · have:=hg.cap.lsn;simp only;omega
 · simp only
   rw [hM.n];exact hM.nlen q1
 · simp only;rw [hM.n];exact hn1
 · simp only;rw [hM.flt,f4];exact hg.flt
 · simp only;rw [hM.flt,f4,hM.n,f1];exact hg.flen
 · exact fun x hx=>(hR x (.inl hx) (hg.brefs x hx)).1
 · exact fun x hx=>(hg.orefs x hx).imp id (fun h=>(hR x (.inr hx) h).1)
 · have:=hg.seq;simp only;omega
 · have:=hg.epoch;simp only;omega
 · simp only
   rw [e3]
   exact Qy hs1
 · exact List.map_congr_left (fun x hx=>(hR x (.inl hx) (hg.brefs x hx)).2)
 · refine List.map_congr_left (fun x hx=>?_)
   split
   · rfl
   · rename_i h
     rw [(hR x (.inr hx) ((hg.orefs x hx).resolve_left h)).2]
theorem Raised.good {B:Nat} {S S':PS} {k j view mode:Nat} (h:Raised B S view mode S') (hg:Good B S k j) (hx:Ext B S) (hj:j≤100000) :
 Good B S' k (j+1)∧Ext B S'∧ZK B S'=ZK B S∧ZS B S'=List.replicate B none∧S'.st={ S.st with seq:=S.st.done,view:=view,mode:=mode,gen:=S.st.gen+1 }∧S'.I.ol=List.replicate B (-1):=by
 obtain ⟨od,h⟩:=h
 obtain ⟨g1,g2,g3⟩:=Forgot.good (view:=view) (mode:=mode) (od:=od) hg
 obtain ⟨c1,c2,c3,c4,c5⟩:=h.good g1 (Forgot.ext hg hx) hj
 refine ⟨c1,c2,c3.trans g2,c4.trans g3,c5,?_⟩
 obtain ⟨D1,us1,W1,D',l0,l1,hE,hM,hl0,hl1,rfl⟩:=h
 simp only [Forgot,YO]
 rw [hg.ol]
end
section
open Go.RowKit Go.Shelf
theorem ZAj {B:Nat} {S:PS} (ol:List Int) (h:∀ x∈ol,x = -1∨RefOk B S x):∀ x∈Qn ol ol.length,x≤0∨(6+4*pgs B≤x.toNat∧x.toNat<198+4*pgs B):=by
 intro x hx
 unfold Qn at hx
 obtain ⟨p,hp,hx⟩:=List.mem_flatMap.1 hx
 split at hx
 · simp only [List.mem_singleton] at hx
   subst hx
   exact XZ (h _ (List.mem_of_mem_take hp))
 · cases hx
theorem VAP {B:Nat} {S:PS} {k j:Nat} (hp:S.W.pos.Ok) (hg:Good B S k j) (hx:Ext B S) (hj:j≤20000) (hgen:S.st.gen≤100000) (hv:1≤S.st.view∧S.st.view≤2147483647) (hm:S.st.mode=1∨S.st.mode=2) :
 ∀ D2 us2 W2,Emitted B S.D S.us S.W D2 us2 W2→PReg.May ⟨S.st.gen+1,S.st.view,S.st.mode,S.st.epoch,S.st.seq,S.st.done,W2.pos⟩∧YT (XR us2 S.lv 8) W2.pos.seg∧D2.acts≤1000100:=by
 intro D2 us2 W2 hE
 obtain ⟨e1,e2,e3,e4,e5,e6,e7,e8,e9,e10,e11⟩:=hg.cap.emitted hE
 obtain ⟨_,_,_,f4,f5,_,_,_,_,_,f11,_⟩:=hE.facts hg.cap.ok
 obtain ⟨p1,p2,p3,p4,p5⟩:=hp
 have hlsn:=hg.cap.lsn
 have hac:=hg.cap.acts
 have hs:=hg.seq
 have he:=hg.epoch
 have hd:=hg.done
 refine ⟨⟨⟨by simp only;omega,by simp only;omega⟩,hv,hm,by simp only;omega,by simp only;omega,hd,⟨by simp only;omega,e4,⟨by simp only;omega,by simp only;omega⟩,?_,by simp only;omega⟩⟩,?_,by omega⟩
 · simp only
   rcases f11 with h | h
   · omega
   · exact h
 · rw [e3]
   exact Qy (hE.segs hx.segs (by omega))
theorem QAf (w:World) (base s d:Nat) (F:List Nat) (B:Nat) (S:PS) (h:StoreAt w base s d F B S) (k j:Nat) (hg:Good B S k j) (hx:Ext B S) (hj:j≤20000) (hm:S.st.mode=1) (hgen:S.st.gen≤100000) (view mode:Nat) (hv:S.st.view<view) (hv2:view≤2147483647) (hmo:mode=1∨mode=2) :
 Calls Tryz.prog 14 #[.pointer (some ⟨s,0,none⟩),.int .i64 (view:Nat),.int .i64 (mode:Nat)] w fun r w'=>r = .returned (.int .i64 0)∧∃ F' S',StoreAt w' base s d F' B S'∧Raised B S view mode S'∧Keep F w w'∧Grow w F F':=by
 obtain ⟨g,t,p,m,Fd,Ft,Fw,Fm,L0,L1,h,rfl⟩:=h
 have hFo:=JAd w base m Fm S.I h.img
 have hgo:=ZAj S.I.ol hg.orefs
 have hgl:=Zl S.I.ol S.I.ol.length
 have hol:=hg.ol
 have hb64:=hg.b64
 have hOf:=Qx w base d Fd S.D h.log.disk
 rw [h.log.off] at hOf
 have hblk:=h.blk
 have hpos:=h.log.pos
 obtain ⟨c0,c1,c2,c3,c4,c5,c6,c7,c8,c9,c10,c11,c12,c13,c14,c15,c16,c17⟩:=VD hblk
 obtain ⟨fg,hfg⟩:∃ z,z=Qn S.I.ol S.I.ol.length:=⟨_,rfl⟩
 rw [← hfg] at hFo hgo hgl
 rw [hm] at c5
 have HFG:=JC hfg
 clear hfg
 have hvI:¬ ((view:Nat):Int)≤(S.st.view:Nat):=by omega
 have hv1:¬ ((view:Nat):Int)<1:=by omega
 have hv2I:¬ (2147483647:Int)<((view:Nat):Int):=by omega
 have hFt:∀ x∈Ft,x<w.heap.size:=fun x hx=>h.log.tab.lt x hx
 have hmF:s∉Fm:=fun hm=>h.aps (by simp [hm])
 have hsT:s∉Ft:=fun hm=>h.aps (by simp [hm])
 have HOL:=JC hol
 clear hol
 go_enter Tryz.func14,Tryz.ntmps14
 rcases hmo with rfl | rfl
 all_goals
  go_wp2_with (first
   | (go_at_call 61
      refine hOf.mono ?_
      clear hOf
      rintro e w' ⟨rfl,rfl⟩)
   | (go_at_call 63
      refine hFo.mono ?_
      clear hFo c0 c1 c2 c3 c4 c5 c6 c7 c8 c9 c10 c11 c12 c13 c14 c15 c16 c17
      rintro e w1 ⟨G,od,rfl,hG,hi1,hk1⟩
      obtain ⟨GA,gc,rfl,_⟩:=KB hG
      have hI1:=h.setImg hi1 (by simp) hk1
      have hLv:=Qi w1 base s d g t p m Fd Ft Fw Fm L0 L1 B _ hI1 0 (.inl rfl) GA fg.length gc fg (Rd.of_own hG) hgo (by have:=JA HOL;omega) (fun x hx hm=>by
       have:=hFt _ hm
       have:=(own_mem hG (g:=x.block) (by rw [hx];simp [Value.ownBlock])).1
       omega))
   | (go_at_call 62
      refine hLv.mono ?_
      clear hLv
      rintro e w2 ⟨rfl,hI2,hk2⟩
      have hblk2:=hI2.blk
      have f5:=hblk2.frozen 5
      have f6:=hblk2.frozen 6
      have f8:=hblk2.frozen 8
      obtain ⟨c0,c1,c2,c3,c4,c5,c6,c7,c8,c9,c10,c11,c12,c13,c14,c15,c16,c17⟩:=VD hblk2))
  have hks:∀ z:Int,Keep [s] w2 (((w2.setCell ⟨s,8,none⟩ (.int .i64 (S.st.done:Nat))).setCell ⟨s,6,none⟩ (.int .i64 (view:Nat))).setCell ⟨s,5,none⟩ (.int .i64 z)):=fun z=>
   (((Keep.refl [s] w2).setCell (p:=⟨s,8,none⟩) (.inl (by simp)) _).setCell (p:=⟨s,6,none⟩) (.inl (by simp)) _).setCell (p:=⟨s,5,none⟩) (.inl (by simp)) _
  have hI3:∀ z:Nat,StoreIs (((w2.setCell ⟨s,8,none⟩ (.int .i64 (S.st.done:Nat))).setCell ⟨s,6,none⟩ (.int .i64 (view:Nat))).setCell ⟨s,5,none⟩ (.int .i64 (z:Nat))) base s d g t p m Fd Ft Fw Fm L0 L1 B (Forgot B S view z od):=fun z=>by
   have hbz:=((hblk2.set 8 (.int .i64 (S.st.done:Nat))).set 6 (.int .i64 (view:Nat))).set 5 (.int .i64 (z:Nat))
   have:=hI2.setSt { S.st with seq:=S.st.done,view:=view,mode:=z } (by simpa using hbz) (hks z)
   unfold Forgot
   rw [← JA HFG]
   exact this
  have hC3:∀ z:Nat,z=1∨z=2→_:=fun z hz=>Xu _ base s d g t p m Fd Ft Fw Fm L0 L1 B (Forgot B S view z od) (hI3 z) hg.cap.ok (by have:=hg.cap.lsn;simp only [Forgot];omega) (by have:=hg.cap.acts;simp only [Forgot];omega) hx.slot hx.lie0 hx.lie1
   (VAP hpos (Forgot.good hg).1 (Forgot.ext hg hx) hj hgen ⟨by simp only [Forgot];omega,hv2⟩ hz)
  have h31:=hC3 1 (.inl rfl)
  have h32:=hC3 2 (.inr rfl)
  clear hC3 c0 c1 c2 c3 c4 c5 c6 c7 c8 c9 c10 c11 c12 c13 c14 c15 c16 c17 hI2
  go_wp2_with (first
   | (refine h31.mono ?_;clear h31 h32;rintro e w3 ⟨u,n,ns,Fd',Fw',L0',L1',D1,us1,W1,D',l0,l1,rfl,hu,hE,hM,hl0,hl1,hS3,hk3,hg3⟩)
   | (refine h32.mono ?_;clear h31 h32;rintro e w3 ⟨u,n,ns,Fd',Fw',L0',L1',D1,us1,W1,D',l0,l1,rfl,hu,hE,hM,hl0,hl1,hS3,hk3,hg3⟩))
  go_ret
  have hsub:∀ {l:List Nat} {u v:World},(∀ x∈l,x=s∨x∈Fd∨x∈Ft∨x∈Fw∨x∈Fm)→Keep l u v→Keep (VL s g Fd Ft Fw Fm L0 L1) u v:=fun hl hk=>hk.sub (JAu hl)
  have K1:=hsub (by intro x hx;simp [hx]) hk1
  have K2:=K1.trans (hsub (by intro x hx;simp [hx]) hk2) (fun x hx => .inl hx)
  have K3:=fun z=>K2.trans (hsub (by intro x hx;simp at hx;simp [hx]) (hks z)) (fun x hx => .inl hx)
  have K4:=(K3 _).trans hk3 (fun x hx => .inl hx)
  exact ⟨rfl,_,_,⟨g,t,p,m,Fd',Ft,Fw',Fm,L0',L1',hS3,rfl⟩,⟨od,D1,us1,W1,D',l0,l1,hE,hM,hl0,hl1,rfl⟩,K4,hg3.keep (K3 _)⟩
end
section
open Go.RowKit Go.Shelf
theorem YAC (n:Nat):(Builtin.zeroCells #[.int .i64 0,.int .i64 0,.int .i64 0,.int .i64 0,.slice none 0 0,.bool false] n).toList=(XD n).flatMap slc:=by
 apply List.ext_getElem?
 intro i
 by_cases hi:i<n*6
 · have h6:i / 6<(XD n).length:=by simp only [XD,List.length_replicate];omega
   have e1:((XD n).flatMap slc)[i]? = (slc (XD n)[i / 6])[i % 6]? := by
    rw [← VJ QG (XD n) (i / 6) (i % 6) h6 (Nat.mod_lt _ (by omega))]
    congr 1;omega
   have e2:(XD n)[i / 6]=PSlot.none_:=by simp [XD]
   rw [e1,e2]
   simp only [Builtin.zeroCells,Array.toList_map,Array.toList_range,List.getElem?_map,List.size_toArray,List.length_cons,List.length_nil,Nat.reduceAdd]
   rw [List.getElem?_range (by omega)]
   have:i % 6=0∨i % 6=1∨i % 6=2∨i % 6=3∨i % 6=4∨i % 6=5:=by omega
   rcases this with h | h | h | h | h | h <;> simp only [Option.map_some,h] <;> rfl
 · rw [List.getElem?_eq_none (by simp [Builtin.zeroCells];omega),List.getElem?_eq_none]
   rw [KP QG]
   simp only [XD,List.length_replicate]
   omega
theorem VAR (w:World) (rt:TypeId) (m c g:Nat) (cur:List Value) (tt:TypeId) (hg:Blk w g tt cur.toArray) (hm:1≤m) (hfit:m*6≤cur.length) :
 ∃ w',(Builtin.clear_ #[189] rt #[.slice (some ⟨g,0,none⟩) m c]).run Tryz.prog w = .ok (.tuple #[]) w'∧Blk w' g tt (splice cur 0 ((XD m).flatMap slc)).toArray∧Keep [g] w w':=by
 obtain ⟨i,hi,hz,hsz,hby⟩:=elemSlot.info
 obtain ⟨n',rfl⟩:∃ n',m=n'+1:=⟨m-1,by omega⟩
 have hl:((XD (n'+1)).flatMap slc).length=(n'+1)*6:=by rw [KP QG];simp [XD]
 have hst:=run_storeCells_at Tryz.prog g 0 tt ((XD (n'+1)).flatMap slc) 0 cur.toArray w hg (by simp [hl];omega) (by
  intro v hv
  obtain ⟨q,hq,hv⟩:=List.mem_flatMap.1 hv
  rw [List.eq_of_mem_replicate hq] at hv
  simp only [slc,PSlot.none_,POp.zero,List.mem_cons,List.not_mem_nil,or_false] at hv
  rcases hv with rfl | rfl | rfl | rfl | rfl | rfl <;> rfl)
 refine ⟨w.setRow g (splice cur 0 ((XD (n'+1)).flatMap slc)).toArray,?_,?_,?_⟩
 · have hzr:(zeroValue 195).run Tryz.prog w = .ok (.agg #[.int .i64 0,.int .i64 0,.int .i64 0,.int .i64 0,.slice none 0 0,.bool false]) w:=by simp [zeroValue,typeInfo,hi,hz]
   have hcl:(Value.agg #[.int .i64 0,.int .i64 0,.int .i64 0,.int .i64 0,.slice none 0 0,.bool false]).cells=#[.int .i64 0,.int .i64 0,.int .i64 0,.int .i64 0,.slice none 0 0,.bool false]:=rfl
   simp only [Builtin.clear_,List.getElem?_toArray,List.getElem?_cons_zero,Sem.run_bind,run_underlying elemSlot.und,Result.andThen_ok,hzr,hcl,YAC,hst]
   simp [splice]
 · show _=_
   simpa [splice] using setRow_heap w g _ _ tt _ hg
 · exact ⟨rfl,rfl,rfl,by simp [World.setRow],fun k hk hn=>setRow_other w g k _ (by simpa using hn)⟩
theorem XAe (w:World) (base x:Nat) (L:Value) (F:List Nat) (next:Nat) (sl:List PSlot) (h:WinIs w base x L F next sl) (n:Nat) (hn:1≤n∧n≤2000000000) :
 Calls Tryz.prog 113 #[.pointer (some ⟨x,0,none⟩),.int .i64 (n:Nat)] w fun e w'=>e = .returned (.tuple #[])∧∃ F',WinIs w' base x L F' n (XD sl.length)∧Keep F w w'∧∀ z∈F',z∈F:=by
 have hN:=noneW_is w base x L F next sl h
 obtain ⟨g,c,rfl,hc⟩:=h.form
 obtain ⟨c0,c1⟩:=h.cells
 have hpos:=h.pos
 obtain ⟨cur,hb,hus,hum,hgb⟩:∃ cur:List Value,Blk w g 195 cur.toArray∧cur.length=c*6∧c≤9223372036854775807∧base≤g:=by
  rcases h.row.2 with ⟨he,_⟩ | ⟨g',cap,cur,he,hb,hg,hn,hm,hs,ht⟩
  · cases he
  · cases he
    exact ⟨cur.toList,hg,by simpa using hs,by simpa [maxLen] using hm,hb⟩
 have hl6:((XD sl.length).flatMap slc).length=sl.length*6:=by rw [KP QG];simp [XD]
 have hc6:sl.length*6≤c*6:=Nat.mul_le_mul_right _ hc
 obtain ⟨w',hrun,hb',hk'⟩:=VAR w 0 sl.length c g cur _ hb hpos (by omega)
 have hxg:x≠g:=fun e=>h.xL (by simp [Value.ownBlock,e])
 have hres:WinIs w' base x (.slice (some ⟨g,0,none⟩) sl.length c) (x :: ((Value.slice (some ⟨g,0,none⟩) sl.length c).ownBlock.toList++(XD sl.length).flatMap (fun q=>q.v.ownBlock.toList))) next (XD sl.length):=by
  refine ⟨h.blk.keep hk' (by simpa using hxg),?_,fun q hq=>?_,rfl,h.base,by simp [XD];omega,by simpa [XD] using h.few,fun q hq _=>List.eq_of_mem_replicate hq,h.nb⟩
  · refine ⟨by rw [hl6];simp [XD],.inr ⟨g,c,_,by simp [XD],hgb,hb',by simpa [XD] using hc,by simpa [maxLen] using hum,by simp only [splice,List.size_toArray,List.length_append,List.length_take,List.length_drop,hl6];omega,?_⟩⟩
    simp only [splice,List.take_zero,List.nil_append,Nat.zero_add]
    rw [List.take_append_of_le_length (by rw [hl6];simp [XD]),List.take_of_length_le (by rw [hl6];simp [XD])]
  · rw [List.eq_of_mem_replicate hq]
    exact PSlot.none_dat _ _
 have hF:∀ z∈x :: ((Value.slice (some ⟨g,0,none⟩) sl.length c).ownBlock.toList++(XD sl.length).flatMap (fun q=>q.v.ownBlock.toList)),z∈F:=by
  intro z hz
  simp only [List.mem_cons,List.mem_append,List.mem_flatMap] at hz
  rcases hz with rfl | hz | ⟨q,hq,hz⟩
  · exact h.inX
  · exact h.inL z hz
  · rw [List.eq_of_mem_replicate hq] at hz
    simp [PSlot.none_,Value.ownBlock] at hz
 obtain ⟨hr2,hk2⟩:=hres.setNext n hn
 have hkk:Keep F w w':=hk'.sub (fun z hz=>by simp at hz;subst hz;exact h.inL _ (by simp [Value.ownBlock]))
 have hn1:¬ ((n:Nat):Int)<1:=by omega
 have hn2:¬ (2147483647:Int)<((n:Nat):Int):=by omega
 have f1:=hres.blk.frozen 1
 have d1:=hres.cells.2
 go_enter Tryz.func113,Tryz.ntmps113
 go_wp2_with (refine hN.mono ?_;clear hN;rintro e w' ⟨rfl,rfl⟩)
 go_end0
 exact ⟨rfl,_,hr2,hkk.trans hk2 (fun z hz => .inl (hF z hz)),hF⟩
end
section
open Go.RowKit Go.Shelf
theorem ReplicaIs.raise {w w':World} {base r s d x:Nat} {Fs Fx:List Nat} {B:Nat} {R:RS} (h:ReplicaIs w base r s d x Fs Fx B R) {Fs':List Nat} {S':PS} (hs:StoreAt w' base s d Fs' B S') (hk:Keep Fs w w') (hg:Grow w Fs Fs') (hm:S'.st.mode=1) (hv:1≤S'.st.view∧S'.st.view≤2147483647):ReplicaIs w' base r s d x Fs' Fx B ⟨S',R.next,R.sl⟩:=
 ⟨h.blk.keep hk h.rs,hs,h.win.keep hk h.ap.symm,h.ap.grow hg h.win.lt,fun hr=>(hg r hr).elim h.rs (by have:=h.blk.lt;omega),h.rx,h.rb,hm,hv⟩
def Vl (w:World) (base r s d x:Nat) (Fs Fx:List Nat) (B:Nat) (R:RS) (view:Nat) (e:Ending) (w':World):Prop:=
 ∃ (Fs' Fx':List Nat) (S':PS) (UA:Option Addr) (uc:Nat),ReplicaIs w' base r s d x Fs' Fx' B ⟨S',S'.st.seq+1,XD R.sl.length⟩∧Raised B R.S view 1 S'∧Keep (JM r Fs Fx) w w'∧Grow w (JM r Fs Fx) (JM r Fs' Fx') ∧
   e = .returned (.tuple #[.slice UA 25 uc,.int .i64 0])∧w'.ownsRow w.heap.size 5 1 (.slice UA 25 uc) 25 (bys (KE 8 S'.st.view S'.st.seq 0 0 S'.st.epoch S'.st.done []))
section
variable (w:World) (base r s d x:Nat) (Fs Fx:List Nat) (B:Nat) (R:RS) (h:ReplicaIs w base r s d x Fs Fx B R)
include h
theorem XAM (view:Nat) (hv:view<R.S.st.view) :
 Calls Tryz.prog 54 #[.pointer (some ⟨r,0,none⟩),.int .i64 (view:Nat)] w fun e w'=>e = .returned (.tuple #[.slice none 0 0,.int .i64 8])∧Keep [] w w':=by
 have hS:=QH w base s d Fs B R.S h.st
 obtain ⟨c0,c1⟩:=h.cells
 clear h
 generalize R.S.st=st at *
 obtain ⟨mode,vw,epoch,seq,done,mount,gen⟩:=st
 simp only at hS hv
 have hvI:((view:Nat):Int)<(vw:Nat):=by omega
 go_enter Tryz.func54,Tryz.ntmps54
 go_wp2_with (refine hS.mono ?_;clear hS;rintro e w1 ⟨rfl,hk1⟩)
 go_ret2
 exact ⟨rfl,hk1.alloc _⟩
theorem ZAG (hs:R.S.st.seq≤2147483647) (he:R.S.st.epoch≤2147483647) (hd:R.S.st.done≤R.S.st.seq) :
 Calls Tryz.prog 54 #[.pointer (some ⟨r,0,none⟩),.int .i64 (R.S.st.view:Nat)] w fun e w'=>∃ UA uc,e = .returned (.tuple #[.slice UA 25 uc,.int .i64 0])∧w'.ownsRow w.heap.size 5 1 (.slice UA 25 uc) 25 (bys (KE 8 R.S.st.view R.S.st.seq 0 0 R.S.st.epoch R.S.st.done []))∧Keep [] w w':=by
 have hS:=QH w base s d Fs B R.S h.st
 have hAn:=fun W (hk:Keep [] w W)=>QZ W base r s d x Fs Fx B R (h.keep0 hk) hs he hd
 obtain ⟨c0,c1⟩:=h.cells
 clear h
 generalize R.S.st=st at *
 obtain ⟨mode,vw,epoch,seq,done,mount,gen⟩:=st
 simp only at hS hAn hs he hd ⊢
 go_enter Tryz.func54,Tryz.ntmps54
 go_wp2_with (first
  | (go_at_call 17;refine hS.mono ?_;clear hS;rintro e w1 ⟨rfl,hk1⟩)
  | (go_at_call 58;refine (hAn _ (hk1.alloc _)).mono ?_;clear hAn;rintro e w2 ⟨u,rfl,hu,hk2⟩))
 obtain ⟨UA,uc,rfl,_⟩:=KB hu
 go_ret2
 exact ⟨UA,uc,rfl,KC hu (by have:=hk1.size;simp;omega),(hk1.alloc _).trans0 hk2⟩
theorem VAe (kk j:Nat) (hg:Good B R.S kk j) (hx:Ext B R.S) (hj:j≤20000) (hgen:R.S.st.gen≤100000) (view:Nat) (hv:R.S.st.view<view) (hv2:view≤2147483647) :
 Calls Tryz.prog 54 #[.pointer (some ⟨r,0,none⟩),.int .i64 (view:Nat)] w (Vl w base r s d x Fs Fx B R view):=by
 have hS:=QH w base s d Fs B R.S h.st
 have hRa:=fun W (hk:Keep [] w W)=>QAf W base s d Fs B R.S (h.keep0 hk).st kk j hg hx hj h.mode hgen view 1 hv hv2 (.inl rfl)
 obtain ⟨c0,c1⟩:=h.cells
 obtain ⟨st,hst⟩:∃ st,st=R.S.st:=⟨_,rfl⟩
 rw [← hst] at hS hv
 have HST:=JC hst
 clear hst
 obtain ⟨mode,vw,epoch,seq,done,mount,gen⟩:=st
 simp only at hS hv
 have hvI:¬ ((view:Nat):Int)<(vw:Nat):=by omega
 have hvI2:((vw:Nat):Int)<(view:Nat):=by omega
 have hfd:=fun (a0 a1 a2 a3 a4 a5 a6 a7 a8 a9:Value) W=>VF (P:=Tryz.prog) Tryz.underlying51 3 rfl Tryz.isAgg3 #[a0,a1,a2,a3,a4,a5,a6,a7,a8,a9] rfl W
 go_enter Tryz.func54,Tryz.ntmps54
 go_wp2_with (first
  | (go_at_call 17
     refine hS.mono ?_
     clear hS
     rintro e w1 ⟨rfl,hk1⟩
     have hkA:Keep [] w (w1.alloc (.cells #[.int .i64 mode,.int .i64 vw,.int .i64 epoch,.int .i64 seq,.int .i64 done,.int .i64 mount,.int .i64 gen,.int .i64 (ZE R.S.us:Nat),.int .i64 (QAR R.S:Nat),.int .i64 (YG R.S.I.ol:Nat)] 51)):=hk1.alloc _
     have hRb:=hRa _ hkA
     clear hRa c0 c1
     obtain ⟨c0,c1⟩:=(h.keep0 hkA).cells)
  | (go_at_call 14
     refine hRb.mono ?_
     clear hRb
     rintro e w2 ⟨rfl,Fs2,S2,hs2,hR2,hk2,hg2⟩
     have hGd:=hR2.good hg hx (by omega)
     have hr2:=(h.keep0 hkA).raise hs2 hk2 hg2 (by rw [hGd.2.2.2.2.1]) (by rw [hGd.2.2.2.2.1];exact ⟨by simp only;omega,hv2⟩)
     have hs2b:S2.st.seq≤1000000:=by have:=hGd.1.seq;omega
     have he2b:S2.st.epoch≤1000000:=by have:=hGd.1.epoch;omega
     have hd2b:S2.st.done≤S2.st.seq:=hGd.1.done
     clear hGd
     obtain ⟨d0,d1⟩:=hr2.cells))
 have hS2:=QH w2.drew base s d Fs2 B S2 (hr2.keep0 (Keep.refl _ _).drew).st
 have hws:IntKind.i64.wrap (((S2.st.seq:Nat):Int)+1)=((S2.st.seq:Nat):Int)+1:=by rw [IntKind.wrap_i64];omega
 refine KA (fun w'=>w'.cell? ⟨r,0,none⟩=some (.pointer (some ⟨s,0,none⟩))∧w'.cell? ⟨r,1,none⟩=some (.pointer (some ⟨x,0,none⟩))) 11 [(0,false),(1,false),(2,false),(3,false),(4,false),(5,false),(6,false),(7,false),(8,true),(9,false),(10,false)]
  (by kernel_rfl) (by kernel_rfl) (fun _ _ d _ _ h=>by cases d <;> exact h) ⟨d0,d1⟩ ?_
 simp only [PI]
 iterate 8 (refine XB ?_ (by rfl) ?_ ?_;rotate_left;(focus (rintro W ⟨hW1,hW2⟩;go_simp;try with_reducible rfl));simp only [Act.put,PU])
 refine QC (by rfl) (fun K hK=>?_)
 go_wp2_with (refine hS2.mono ?_;clear hS2;rintro e w3 ⟨rfl,hk3⟩)
 replace hk3:Keep [] w2 w3:=(Keep.refl _ _).drew.trans0 hk3
 have hr3:=hr2.keep0 hk3
 refine hK _ _ (hr3.cells) ?_
 clear hK K
 try simp only [Act.put,PU]
 iterate 2 (refine XB ?_ (by rfl) ?_ ?_;rotate_left;(focus (rintro W ⟨hW1,hW2⟩;go_simp;try with_reducible rfl));simp only [Act.put,PU])
 refine YC ?_
 obtain ⟨L3,hw3⟩:=hr3.win
 have hRs:=XAe w3 base x L3 Fx R.next R.sl hw3 (S2.st.seq+1) ⟨by omega,by omega⟩
 rw [show ((S2.st.seq+1:Nat):Int)=(S2.st.seq:Nat)+1 by simp] at hRs
 have hsz2:w.heap.size≤w2.heap.size:=Nat.le_trans hkA.size hk2.size
 go_wp2_with (first
  | (go_at_call 113
     refine hRs.mono ?_
     clear hRs
     rintro e w4 ⟨rfl,F4,hw4,hk4,hF4⟩
     have hr4:=hr3.setWin (n:=S2.st.seq+1) ⟨_,hw4⟩ hk4 (fun y hy => .inl (hF4 y hy))
     obtain ⟨d0,d1⟩:=hr4.cells
     have hAn:=QZ w4 base r s d x Fs2 F4 B _ hr4 (by simp only;omega) (by simp only;omega) hd2b)
  | (go_at_call 58
     refine hAn.mono ?_
     clear hAn
     rintro e w5 ⟨u,rfl,hu,hk5⟩))
 obtain ⟨UA,uc,rfl,_⟩:=KB hu
 go_ret2
 have K1:Keep (JM r Fs Fx) w w2:=hkA.zero.trans hk2 (fun y hy => .inl (by simp [JM,hy]))
 have K2:Keep (JM r Fs Fx) w w4:=(K1.trans0 hk3).trans hk4 (fun y hy => .inl (by simp [JM,hy]))
 refine ⟨Fs2,F4,S2,UA,uc,hr4.keep0 hk5,hR2,K2.trans0 hk5,fun y hy=>?_,rfl,KC hu K2.size⟩
 simp only [JM,List.mem_cons,List.mem_append] at hy ⊢
 rcases hy with hy | hy | hy
 · exact .inl (.inl hy)
 · exact (hg2 y hy).imp (fun h => .inr (.inl h)) (fun h=>Nat.le_trans hkA.size h)
 · exact .inl (.inr (.inr (hF4 y hy)))
end
end
section
open Go.RowKit Go.Shelf
section
variable (w:World) (base r s d x:Nat) (Fs Fx:List Nat) (B:Nat) (R:RS) (h:ReplicaIs w base r s d x Fs Fx B R)
include h
omit h in
theorem KAQ (v q b c e dn:Nat) (A:Option Addr) (n m:Nat):Calls Tryz.prog 53 #[.pointer (some ⟨r,0,none⟩),.agg #[.int .i64 9,.int .i64 v,.int .i64 q,.int .i64 b,.int .i64 c,.int .i64 e,.int .i64 dn,.slice A n m]] w fun e w'=>e = .returned (.bool false)∧Keep [] w w':=by
 have hkA:Keep [] w (w.alloc (.cells #[.int .i64 9,.int .i64 v,.int .i64 q,.int .i64 b,.int .i64 c,.int .i64 e,.int .i64 dn,.slice A n m] 85)):=(Keep.refl _ _).alloc _
 have hbF:=Blk.new w 85 #[.int .i64 9,.int .i64 v,.int .i64 q,.int .i64 b,.int .i64 c,.int .i64 e,.int .i64 dn,.slice A n m]
 obtain ⟨mx,hmx⟩:∃ mx:Int,max ((c:Nat):Int) 1=mx:=⟨_,rfl⟩
 go_enter Tryz.func53,Tryz.ntmps53
 go_wp2_with fail
 obtain ⟨f0,f1,f2,f3,f4,f5,f6,f7⟩:=XC hbF
 refine KA (fun w'=>w'.cell? ⟨w.heap.size,0,none⟩=some (.int .i64 9)) 23 [(0,false),(1,false),(2,false),(3,false),(4,false),(5,false),(6,false),(7,false),(8,false),(9,false),(10,false),(11,false),(12,false),(13,false),(14,false),(15,false),(16,false),(17,false),(18,false),(19,false),(20,false),(21,true),(22,true)]
  (by kernel_rfl) (by kernel_rfl) (fun _ _ d _ _ h=>by cases d <;> exact h) f0 ?_
 simp only [PI]
 iterate 13 (refine XB ?_ (by rfl) ?_ ?_;rotate_left;(focus (intro W hW;go_simp;try with_reducible rfl));simp only [Act.put,PU])
 iterate 8 (refine Zh (by rfl) ?_;simp only [Act.put,PU])
 refine QP (by rfl) f0 ?_
 simp only [Act.put,PU]
 refine QP (by rfl) f0 ?_
 simp only [Act.put,PU]
 refine YC ?_
 go_wp2_with fail
 go_ret
 exact ⟨rfl,hkA.drew⟩
theorem Ja (v:Nat) (hv:1≤v∧v≤2147483647) (A:Option Addr) (cp:Nat) (ha:Rd w A 25 (bys (KE 9 v 0 0 0 0 0 []))) (Post:Ending→World→Prop)
 (hcont:∀ w3,Keep [] w w3→Calls Tryz.prog 54 #[.pointer (some ⟨r,0,none⟩),.int .i64 (v:Nat)] w3 fun e w'=>∃ U n c z,e = .returned (.tuple #[.slice U n c,.int .i64 z])∧Post e w') :
 Calls Tryz.prog 12 #[.pointer (some ⟨r,0,none⟩),.slice A 25 cp] w Post:=by
 have hD:=ZV 9 v 0 0 0 0 0 [] ⟨by omega,.inr (.inr (.inr (.inr ⟨rfl,rfl,rfl,rfl,rfl,rfl,rfl⟩)))⟩ A 25 cp w ha
 have hR:=fun W (hk:Keep [] w W)=>readyR_ok W base r s d x Fs Fx B R (h.keep0 hk)
 have hSt:=fun W UA uc=>KAQ W r v 0 0 0 0 0 UA 0 uc
 clear h ha hv
 go_enter Tryz.func12,Tryz.ntmps12
 go_wp2_with (first
  | (go_at_call 43
     refine hD.mono ?_
     clear hD
     rintro e1 w1 ⟨UA,uc,rfl,hu,hk1⟩
     have hbF:=Blk.new w1 85 #[.int .i64 9,.int .i64 (v:Nat),.int .i64 0,.int .i64 0,.int .i64 0,.int .i64 0,.int .i64 0,.slice UA 0 uc]
     have hkA:Keep [] w (w1.alloc (.cells #[.int .i64 9,.int .i64 (v:Nat),.int .i64 0,.int .i64 0,.int .i64 0,.int .i64 0,.int .i64 0,.slice UA 0 uc] 85)):=hk1.alloc _)
  | (go_at_call 52
     refine (hR _ hkA).mono ?_
     clear hR
     rintro e2 w2 ⟨rfl,hk2⟩
     replace hbF:=hbF.keep0 hk2
     replace hkA:=hkA.trans0 hk2
     obtain ⟨f0,f1,f2,f3,f4,f5,f6,f7⟩:=XC hbF)
  | (go_at_call 53
     refine (hSt _ _ _).mono ?_
     clear hSt
     rintro e3 w3 ⟨rfl,hk3⟩
     replace hbF:=hbF.keep0 hk3
     replace hkA:=hkA.trans0 hk3
     clear f0 f1 f2 f3 f4 f5 f6 f7
     obtain ⟨f0,f1,f2,f3,f4,f5,f6,f7⟩:=XC hbF)
  | (go_at_call 54
     refine (hcont _ hkA).mono ?_
     clear hcont
     rintro e4 w4 ⟨U,n,c,z,rfl,hP⟩))
 exact hP
end
end
section
open Go.RowKit Go.Shelf
theorem JAZ (w:World) (base d g t p:Nat) (Fd Ft Fw:List Nat) (B:Nat) (D:PDisk) (us:List (Nat×Nat)) (lv:List Nat) (W:PW) (h:LogIs w base d g t p Fd Ft Fw B D us lv W) (hf:∀ x∈D.faults,x=false) (hfl:D.faults.length=D.n) (ho:W.Ok) (a:Nat) (ha:a<D.n) :
 Calls Tryz.prog 222 #[.pointer (some ⟨p,0,none⟩),.int .i64 (a:Nat)] w fun e w'=>∃ UA uc,e = .returned (.tuple #[.slice UA 64 uc,.int .i64 0])∧w'.ownsRow w.heap.size 5 1 (.slice UA 64 uc) 64 (bys (XM B D W a))∧Keep [] w w':=by
 obtain ⟨I,Bv,ls,hw⟩:=h.wri
 obtain ⟨BA,bc,rfl,_⟩:=KB hw.bls
 have hrws:=hw.rws rfl
 have hlen:ls.length=W.blocks.length:=hw.len
 have hb6:ls.length≤6:=by rw [hlen,ho.many];exact Nat.le_trans (QM _) ho.few
 obtain ⟨p1,p2,_,_,_⟩:=h.pos
 have hFi:=fun U (hk:Keep [] w U)=>Jw U p g B _ (hw.blk.keep0 hk) rfl W.pos.seg W.pos.off p1 (by omega) rfl rfl (h.geom.keep0 hk)
 have hRd:=fun U (hk:Keep [] w U)=>QAL U base d Fd D (h.disk.keep0 hk) h.off a ha (by rw [List.getElem?_eq_getElem (by omega),hf _ (List.getElem_mem _)])
 have hcl:=fun U (hk:Keep [] w U)=>YE (hw.blk.keep0 hk)
 have hsnd:∀ k (hk:k<ls.length),W.blocks[k]? = some ls[k].2:=fun k hk=>by rw [← hw.snd,List.getElem?_map,List.getElem?_eq_getElem hk];rfl
 have hdat:∀ k (hk:k<ls.length),w.ownsRow base 5 1 ls[k].1 64 (bys ls[k].2):=fun k hk=>hw.dat _ (List.getElem_mem hk)
 have hpb:=JE h.geom.pos h.geom.few
 have hn:=h.many
 obtain ⟨f0,hf0⟩:∃ f,f=6+4*pgs B+24*W.pos.seg+YD W.pos.off 0:=⟨_,rfl⟩
 have hfb:f0≤1000:=by rw [hf0];unfold YD;omega
 have hrw:XM B D W a=if f0≤a∧a<f0+ls.length then W.blocks.getD (a-f0) [] else seg 64 D.now a:=by unfold XM YH;rw [hlen,hf0]
 rw [← hf0] at hFi
 obtain ⟨c0,c1,c2,c3,c4,c5,c6,c7,c8,c9⟩:=hcl w (Keep.refl _ _)
 have HF0:=JC hf0
 have HRW:=JC hrw
 have HSND:=JC hsnd
 have HDAT:=JC hdat
 clear hf0 hrw hsnd hdat h hw hf hfl hn ho hlen
 have HN:=JC (show ls.length=ls.length from rfl)
 obtain ⟨n,hn⟩:∃ n,n=ls.length:=⟨_,rfl⟩
 rw [← hn] at hrws c9 hb6
 have HLN:=JC hn
 clear hn
 go_enter Tryz.func222,Tryz.ntmps222
 go_wp2
 go_loopw [6,7,15] (fun _ _ i U=>∃ k:Nat,k≤n∧i = .int .i64 (k:Nat)∧Keep [] w U∧∀ j<k,a≠f0+j) (fun _ _ i _=>n-(intOf i).toNat)
 case atStart=>exact ⟨0,Nat.zero_le _,rfl,Keep.refl _ _,fun j hj=>by omega⟩
 case round=>
  clear c0 c1 c2 c3 c4 c5 c6 c7 c8 c9
  obtain ⟨k,hk,rfl,hkU,hno⟩:=hrel
  have HNO:=JC hno
  clear hno
  by_cases hlt:k<n
  · have hkl:k<ls.length:=by rw [← JA HLN];exact hlt
    obtain ⟨ab,ao,hBA,hab,hcell,hbt⟩:=(hrws.keep hkU).at_ hlt hkl
    have hda:=JA HDAT k hkl
    obtain ⟨QA,qc,hqv,_⟩:=KB hda
    rw [hqv] at hcell hda
    have hkI:((k:Nat):Int)<(n:Nat):=by omega
    subst hBA
    have hFi1:=hFi wr hkU
    by_cases hea:a=f0+k
    · have heI:((a:Nat):Int)=(f0:Nat)+(k:Nat):=by omega
      have hCl:=fun U (hk':Keep [] w U)=>YS QA 64 qc _ U ((Rd.of_own hda).keep hk') (by omega)
      go_wp2_with (first
       | (go_at_call 270
          refine hFi1.mono ?_
          clear hFi1
          rintro e w2 ⟨rfl,hk2⟩
          replace hkU:=hkU.trans0 hk2)
       | (go_at_call 115
          refine (hCl _ hkU).mono ?_
          clear hCl
          rintro e w3 ⟨u,rfl,hu,hk3,_⟩))
      obtain ⟨UA,uc,rfl,_⟩:=KB hu
      go_ret2
      refine ⟨UA,uc,rfl,?_,hkU.trans0 hk3⟩
      have e1:XM B D W a=ls[k].2:=by
       rw [JA HRW,if_pos ⟨by omega,by omega⟩,List.getD_eq_getElem?_getD,show a-f0=k by omega,JA HSND k hkl];rfl
      rw [e1]
      exact KC hu hkU.size
    · have heI:¬ ((a:Nat):Int)=(f0:Nat)+(k:Nat):=by omega
      have heB:(((a:Nat):Int) == (f0:Nat)+(k:Nat))=false:=by simpa using heI
      go_wp2_with (
       (refine hFi1.mono ?_)
       clear hFi1
       rintro e w2 ⟨rfl,hk2⟩)
      go_roundw
      case rel=>
       refine ⟨k+1,by omega,by go_num,hkU.trans0 hk2,fun j hj=>?_⟩
       rcases Nat.lt_or_ge j k with h1 | h1
       · exact JA HNO j h1
       · obtain rfl:j=k:=by omega
         exact hea
      case measure=>simp [intOf];omega
  · obtain rfl:k=n:=by omega
    have hRd1:=hRd wr hkU
    obtain ⟨c0,c1,c2,c3,c4,c5,c6,c7,c8,c9⟩:=hcl wr hkU
    go_wp2_with (
     (refine hRd1.mono ?_)
     clear hRd1
     rintro e w2 ⟨u,rfl,hu,hk2⟩)
    obtain ⟨UA,uc,rfl,_⟩:=KB hu
    go_ret2
    refine ⟨UA,uc,rfl,?_,hkU.trans0 hk2⟩
    have e1:XM B D W a=seg 64 D.now a:=by
     rw [JA HRW,if_neg]
     rintro ⟨h1,h2⟩
     rw [← JA HLN] at h2
     exact JA HNO (a-f0) (by omega) (by omega)
    rw [e1]
    exact KC hu hkU.size
theorem VAB {B:Nat} {S:PS} {k j:Nat} (hg:Good B S k j) {a:Int} (ha:RefOk B S a):(YI B S a).length=64:=by
 unfold YI
 split
 · simp [zeros64]
 · rename_i h0
   obtain ⟨_,hl⟩:=ha.resolve_left h0
   unfold XM
   split
   · rename_i h1
     rw [List.getD_eq_getElem?_getD,List.getElem?_eq_getElem (by omega)]
     exact hg.cap.ok.full _ (List.getElem_mem _)
   · exact length_seg 64 _ _ (by have:=hl.hi;have:=hg.many;rw [hg.now];omega)
section
variable (w:World) (base s d:Nat) (F:List Nat) (B:Nat) (S:PS) (h:StoreAt w base s d F B S)
include h
theorem KAX (k j:Nat) (hg:Good B S k j) (a:Int) (hr:RefOk B S a) :
 Calls Tryz.prog 143 #[.pointer (some ⟨s,0,none⟩),.int .i64 a] w fun e w'=>∃ UA uc,e = .returned (.tuple #[.slice UA 64 uc,.int .i64 0])∧w'.ownsRow w.heap.size 5 1 (.slice UA 64 uc) 64 (bys (YI B S a))∧Keep [] w w':=by
 obtain ⟨g,t,p,m,Fd,Ft,Fw,Fm,L0,L1,h,rfl⟩:=h
 obtain ⟨c0,c1,c2,c3,c4,c5,c6,c7,c8,c9,c10,c11,c12,c13,c14,c15,c16,c17⟩:=VD h.blk
 rcases hr with rfl | ⟨h0,hl⟩
 · have hz:YI B S 0=zeros64:=by unfold YI;rw [if_pos rfl]
   rw [hz]
   clear hz hg h
   go_enter Tryz.func143,Tryz.ntmps143
   go_wp2_with (at_make;refine elem8.wp_make rfl _ _ rfl .i64 .i64 64 64 64 rfl rfl rfl rfl (by omega) (by omega) ?_)
   go_ret2
   exact ⟨some ⟨w.heap.size,0,none⟩,64,rfl,ZO (Blk.new w _ _) (Nat.le_refl _) (by omega) (by simp) (by simp [zeros64,bys];rfl),(Keep.refl _ _).alloc _⟩
 · have hR:=JAZ w base d g t p Fd Ft Fw B S.D S.us S.lv S.W h.log hg.flt hg.flen hg.cap.ok a.toNat (by have:=hl.hi;have:=hg.many;omega)
   rw [show ((a.toNat:Nat):Int)=a by omega] at hR
   have hrr:YI B S a=XM B S.D S.W a.toNat:=by unfold YI;rw [if_neg (by omega)]
   rw [hrr]
   have ha0:¬ a=0:=by omega
   have ha1:(a == 0)=false:=by simpa using ha0
   clear hrr hg h hl
   go_enter Tryz.func143,Tryz.ntmps143
   go_wp2_with (refine hR.mono ?_;clear hR;rintro e w2 ⟨UA,uc,rfl,hu,hk2⟩)
   go_ret2
   exact ⟨UA,uc,rfl,hu,hk2⟩
end
theorem YAz (w:World) (base m:Nat) (F:List Nat) (I:PImage) (h:ImageAt w base m F I) (b:Nat) (hb:b<I.bl.length) :
 Calls Tryz.prog 142 #[.pointer (some ⟨m,0,none⟩),.int .i64 (b:Nat)] w fun e w'=>e = .returned (.tuple #[.int .i64 I.bl[b],.bool true])∧w=w':=by
 obtain ⟨p1,p2,F1,F2,h⟩:=h
 have hT:=XO w base m p1 p2 F F1 F2 I h false
 have hG:=Zu w base p1 F1 I.bl I.bd h.b b hb
 simp only [Bool.false_eq_true,if_false] at hT
 go_enter Tryz.func142,Tryz.ntmps142
 go_wp2_with (first
  | (go_at_call 129;refine hT.mono ?_;clear hT;rintro e w' ⟨rfl,rfl⟩)
  | (refine hG.mono ?_;clear hG;rintro e w' ⟨rfl,rfl⟩))
 go_ret2
 exact ⟨rfl,rfl⟩
section
variable (w:World) (base s d:Nat) (F:List Nat) (B:Nat) (S:PS) (h:StoreAt w base s d F B S)
include h
theorem JAo (k j:Nat) (hg:Good B S k j) (b:Nat) (hb:b<B) :
 Calls Tryz.prog 71 #[.pointer (some ⟨s,0,none⟩),.int .i64 (b:Nat)] w fun e w'=>∃ UA uc,e = .returned (.tuple #[.slice UA 64 uc,.int .i64 0])∧w'.ownsRow w.heap.size 5 1 (.slice UA 64 uc) 64 (bys ((ZK B S).getD b []))∧Keep [] w w':=by
 have hbl:=hg.bl
 have hB:=KAX w base s d F B S h k j hg (S.I.bl[b]'(by omega)) (hg.brefs _ (List.getElem_mem _))
 have hbo:(ZK B S).getD b []=YI B S (S.I.bl[b]'(by omega)):=by
  unfold ZK
  rw [List.getD_eq_getElem?_getD,List.getElem?_map,List.getElem?_eq_getElem (by omega)];rfl
 rw [hbo]
 obtain ⟨g,t,p,m,Fd,Ft,Fw,Fm,L0,L1,h,rfl⟩:=h
 have hH:=Vt w base s d g t p m Fd Ft Fw Fm L0 L1 B S h b 1 (by omega) (by omega)
 have hQ:=Xc w base s d g t p m Fd Ft Fw Fm L0 L1 B S h 0 (.inl rfl)
 have hR:=YAz w base m Fm S.I h.img b (by omega)
 obtain ⟨c0,c1,c2,c3,c4,c5,c6,c7,c8,c9,c10,c11,c12,c13,c14,c15,c16,c17⟩:=VD h.blk
 rw [show ((0:Nat):Int)=0 from rfl] at hQ
 rw [show ((1:Nat):Int)=1 from rfl] at hH
 clear h hbo hg
 generalize S.I.bl[b]'_=a at *
 generalize YI B S a=rr at *
 go_enter Tryz.func71,Tryz.ntmps71
 go_wp2_with (first
  | (go_at_call 141;refine hH.mono ?_;clear hH;rintro e w' ⟨rfl,rfl⟩)
  | (go_at_call 132;refine hQ.mono ?_;clear hQ;rintro e w' ⟨rfl,rfl⟩)
  | (go_at_call 142;refine hR.mono ?_;clear hR;rintro e w' ⟨rfl,rfl⟩)
  | (go_at_call 143;refine hB.mono ?_;clear hB;rintro e w2 ⟨UA,uc,rfl,hu,hk2⟩))
 go_ret2
 exact ⟨UA,uc,rfl,hu,hk2⟩
end
end
section
open Go.RowKit Go.Shelf
def RowsAt (w:World) (N:Nat) (V:Value) (rows:List (List UInt8)):Prop:=∃ (A:Option Addr) (c:Nat) (ls:List (Value×List UInt8)),V = .slice A rows.length c∧ls.map (·.2)=rows∧w.ownsRow N 40 1 V rows.length (ls.map (·.1))∧∀ q∈ls,q.2.length=64∧w.ownsRow N 5 1 q.1 64 (bys q.2)
theorem RowsAt.nil (w:World) (N:Nat):RowsAt w N (.slice none 0 0) []:=⟨none,0,[],rfl,rfl,World.ownsRow_nil _ _ _ _,by simp⟩
theorem RowsAt.keep0 {w w':World} {N:Nat} {V:Value} {rows:List (List UInt8)} (h:RowsAt w N V rows) (hk:Keep [] w w'):RowsAt w' N V rows:=by
 obtain ⟨A,c,ls,h1,h2,h3,h4⟩:=h
 exact ⟨A,c,ls,h1,h2,YB h3 hk,fun q hq=>⟨(h4 q hq).1,YB (h4 q hq).2 hk⟩⟩
theorem RowsAt.keepF {w w':World} {N:Nat} {V:Value} {rows:List (List UInt8)} {l:List Nat} (h:RowsAt w N V rows) (hk:Keep l w w') (hl:∀ x∈l,x<N∨w.heap.size≤x):RowsAt w' N V rows:=by
 obtain ⟨A,c,ls,h1,h2,h3,h4⟩:=h
 exact ⟨A,c,ls,h1,h2,JB h3 hk (fun g hg hm=>by have:=own_mem h3 (g:=g) (by simp [hg]);have:=hl g hm;omega),fun q hq=>⟨(h4 q hq).1,JB (h4 q hq).2 hk (fun g hg hm=>by have:=own_mem (h4 q hq).2 (g:=g) (by simp [hg]);have:=hl g hm;omega)⟩⟩
theorem RowsAt.rws {w:World} {N:Nat} {A:Option Addr} {n c:Nat} {rows:List (List UInt8)} (h:RowsAt w N (.slice A n c) rows):n=rows.length∧∃ ls,ls.map (·.2)=rows∧Rws w A n ls:=by
 obtain ⟨A',c',ls,h1,h2,h3,h4⟩:=h
 cases h1
 exact ⟨rfl,ls,h2,Rd.of_own h3,fun q hq=>Bts.of_own (h4 q hq).2 (by omega)⟩
theorem Vq (w:World) (base s d:Nat) (F:List Nat) (B:Nat) (S:PS) (h:StoreAt w base s d F B S) (k j:Nat) (hg:Good B S k j) :
 Calls Tryz.prog 24 #[.pointer (some ⟨s,0,none⟩),.int .i64 (B:Nat)] w fun e w'=>∃ V,e = .returned (.tuple #[V,.bool true])∧RowsAt w' w.heap.size V (ZK B S)∧Keep [] w w':=by
 have hR:=fun W (hk:Keep [] w W) b hb=>JAo W base s d F B S (h.keep0 hk) k j hg b hb
 have hlen:(ZK B S).length=B:=by unfold ZK;rw [List.length_map];exact hg.bl
 have h64:=hg.b64
 have hl64:∀ b,b<B→((ZK B S).getD b []).length=64:=fun b hb=>by
  have:=(hR w (Keep.refl _ _) b hb)
  unfold ZK
  rw [List.getD_eq_getElem?_getD,List.getElem?_map,List.getElem?_eq_getElem (by rw [hg.bl];exact hb)]
  simp only [Option.map_some,Option.getD_some]
  exact VAB hg (hg.brefs _ (List.getElem_mem _))
 clear h hg
 generalize ZK B S=rows at *
 go_enter Tryz.func24,Tryz.ntmps24
 go_wp2
 go_loopw [6,7,8,9] (fun l i _ _ wr=>∃ m:Nat,m≤B∧i = .int .i64 (m:Nat)∧RowsAt wr w.heap.size l (rows.take m)∧Keep [] w wr) (fun _ i _ _ _=>B-(intOf i).toNat)
 case atStart=>exact ⟨0,Nat.zero_le _,rfl,RowsAt.nil _ _,Keep.refl _ _⟩
 case round=>
  obtain ⟨m,hm,rfl,hO,hkr⟩:=hrel
  by_cases hlt:m<B
  · have hR1:=hR wr hkr m hlt
    have hx64:=hl64 m hlt
    have hrm:rows[m]? = some (rows.getD m []):=by rw [List.getD_eq_getElem?_getD,List.getElem?_eq_getElem (by omega)];rfl
    have htk:rows.take (m+1)=rows.take m++[rows.getD m []]:=by
     rw [List.take_add_one,hrm];rfl
    obtain ⟨OA,oc,ls,rfl,hls,hown,hdat⟩:=hO
    have hol:(rows.take m).length=m:=by rw [List.length_take];omega
    have hll:ls.length=m:=by have:=congrArg List.length hls;simpa [hol] using this
    rw [hol] at hown ⊢
    have HTK:=JC htk
    have HLS:=JC hls
    have HLL:=JC hll
    have HX:=JC hx64
    have HDAT:=JC hdat
    clear htk hls hll hx64 hrm hol hdat
    generalize rows.getD m []=xs at *
    have hltI:((m:Nat):Int)<(B:Nat):=by omega
    go_wp2_with (first
     | (go_at_call 71
        refine hR1.mono ?_
        clear hR1
        rintro e w2 ⟨UA,uc,rfl,hu,hk2⟩
        have hszz:w.heap.size≤w2.heap.size:=Nat.le_trans hkr.size hk2.size
        have hrd:=VO w2 (.slice UA 64 uc) 40)
     | (at_builtin;refine elemRows.wp_app rfl _ _ (by rfl) w.heap.size _ m (ls.map (·.1)) (by rfl) (QE (YB hown hk2) _) (some ⟨w2.heap.size,0,none⟩) 1 1 [.slice UA 64 uc] (by rfl) hrd (by simp [Value.oneCell']) (by omega) (by omega) (by simp;omega) ?_))
    intro V' w4 hS' hk4 hSb _
    go_wp2
    go_roundw
    case rel=>
     have hkA:Keep [] w2 (w2.alloc (.cells #[.slice UA 64 uc] 40)):=(Keep.refl _ _).alloc _
     have hsz:w.heap.size≤wr.heap.size:=hkr.size
     have hge:∀ x∈(Value.slice OA m oc).ownBlock.toList,w.heap.size≤x:=fun x hx=>(own_mem hown hx).1
     have hall:=(hk2.trans0 hkA).zero.trans hk4 (fun x hx => .inl hx)
     obtain ⟨VA,vc,rfl,_⟩:=KB hS'
     have hxs:=JA HX
     have hnew:∀ {q:Value} {ys:List UInt8},wr.ownsRow w.heap.size 5 1 q 64 (bys ys)→w4.ownsRow w.heap.size 5 1 q 64 (bys ys):=fun hq=>JB hq hall (fun g hg hm=>own_ne hq hown (by decide) hg (by simpa using hm))
     have hu4:w4.ownsRow w.heap.size 5 1 (.slice UA 64 uc) 64 (bys xs):=JB (KC (YB hu hkA) hsz) hk4 (fun g hg hm=>by have:=(own_mem hu (g:=g) (by simp [hg])).1;have:=(own_mem hown (by simpa using hm)).2;omega)
     refine ⟨m+1,by omega,by go_num,?_,hkr.trans hall (fun x hx => .inr (hge x hx))⟩
     rw [JA HTK]
     have hlm:(rows.take m++[xs]).length=m+1:=by rw [← JA HLS];simp [JA HLL]
     refine ⟨VA,vc,ls++[(.slice UA 64 uc,xs)],by rw [hlm],by rw [List.map_append,JA HLS];rfl,by rw [hlm,List.map_append];exact hS',fun q hq=>?_⟩
     rcases List.mem_append.1 hq with hq | hq
     · exact ⟨(JA HDAT q hq).1,hnew (JA HDAT q hq).2⟩
     · simp at hq;subst hq
       exact ⟨hxs,hu4⟩
    case measure=>simp [intOf];omega
  · obtain rfl:m=B:=by omega
    go_wp2_with fail
    go_ret2
    rw [List.take_of_length_le (by omega)] at hO
    exact ⟨_,rfl,hO,hkr⟩
end
end Go.Proofs.YtmoagodllhdemaaGreat
