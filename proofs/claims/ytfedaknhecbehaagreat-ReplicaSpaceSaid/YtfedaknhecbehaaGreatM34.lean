/- Lemmas of the proof, with their conditions. -/
import Derived.Test.YtfedaknhecbehaaGreatM33
namespace Go.Proofs.YtfedaknhecbehaaGreat
open Tryz Go.RowKit Go.Shelf
variable {B k j:Nat}
set_option linter.all false
theorem QAe {S:PS} (f:S.W.pos.Ok) (a:Good B S k j) (g:Ext B S) (q:j<=100000) (r:S.st.gen<=100000) (i:1<=S.st.view/\S.st.view<=2147483647) (l:S.st.mode=1\/S.st.mode=2) :
 ∀ c d b,Emitted B S.D S.us S.W c d b->PReg.May ⟨S.st.gen+1,S.st.view,S.st.mode,S.st.epoch,S.st.seq,S.st.done,b.pos⟩/\VW (VT d S.lv 8) b.pos.seg/\c.acts<=8000100:=by
 intro c d b e;obtain⟨s,t,m,n,u,v,w,y,z,A,C⟩:=a.cap.emitted e;obtain⟨_,_,_,D,E,_,_,_,_,_,o,_⟩:=e.facts a.cap.ok;obtain⟨F,G,H,I,J⟩:=f;have K:=a.cap.lsn;have L:=a.cap.acts;have M:=a.seq;have N:=a.epoch;have p:=a.done;refine⟨⟨⟨by simp only;omega,by simp only;omega⟩,i,l,by simp only;omega,by simp only;omega,p,⟨by simp only;omega,n,⟨by simp only;omega,by simp only;omega⟩,?_,by simp only;omega⟩⟩,?_,Z⟩
 . simp only
   rcases o with h | h
   . omega
   exact h
 rw[m]
 exact XAL (e.segs g.segs Z)
structure OpIs (B:Nat) (ops:Nat->POp) (j k b c e:Nat) (xs:List UInt8):Prop where
 op:ops j=⟨k,b,c,e,xs⟩
 may:OpMay k b c e xs.length
 ok:b+max c 1<=B\/k=3
 for_:KS B ⟨k,b,c,e,xs⟩
theorem OpIs.dev {o b c e:Nat} {f:Nat->POp} {xs:List UInt8} (h:OpIs B f j k b c e xs) (p:KBZ B f o) (q:j<o):Vx (idl B f j) k b c e xs.length:=by
 have r:=(KBA B f j).1;have i:=(p j q).2;rw[h.op] at i;simp only at i;unfold Vx;rw[r];have s:=h.ok;rcases h.may with⟨a,l,d,m,g⟩ | ⟨a,l,d,m,g,n⟩ | ⟨a,l,d,m,g,n⟩
 . exact .inl ⟨a,Z,d,m,g⟩
 . exact .inr (.inl ⟨a,d,Z,g,n⟩)
 have:=i Z
 exact .inr (.inr ⟨a,l,d,Z,n⟩)