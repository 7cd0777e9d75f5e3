/- Lemmas of the proof, with their conditions. -/
import Derived.Test.YtkonbpfbjiepfaaGreatP45
namespace Go.Proofs.YtkonbpfbjiepfaaGreat
set_option linter.unusedSimpArgs false
set_option linter.unusedVariables false
set_option maxHeartbeats 8000000
set_option maxRecDepth 40000
section
open Go.RowKit Go.Shelf
section
variable (w:World) (base s d g t p m:Nat) (Fd Ft Fw Fm:List Nat) (L0 L1:Value) (B:Nat) (S:PS) (h:StoreIs w base s d g t p m Fd Ft Fw Fm L0 L1 B S)
include h
theorem ZAO (hm:S.st.mode=2) (v:Int):Calls Tryz.prog 86 #[.pointer (some ⟨s,0,none⟩),.int .i64 v,.int .i64 2] w fun e w'=>e=.returned (.int .i64 7)∧w=w':=by
 obtain⟨c0,c1,c2,c3,c4,c5,c6,c7,c8,c9,c10,c11,c12,c13,c14,c15,c16,c17⟩:=VC h.blk;rw[hm] at c5
 go_enter Tryz.func86,Tryz.ntmps86
 go_wp2_with fail
 go_ret;exact⟨rfl,rfl⟩
theorem QAY (hm:S.st.mode=1) (v:Int) (hv:v<1∨2147483647<v):Calls Tryz.prog 86 #[.pointer (some ⟨s,0,none⟩),.int .i64 v,.int .i64 2] w fun e w'=>e=.returned (.int .i64 1)∧w=w':=by
 obtain⟨c0,c1,c2,c3,c4,c5,c6,c7,c8,c9,c10,c11,c12,c13,c14,c15,c16,c17⟩:=VC h.blk;rw[hm] at c5
 by_cases h1:v<1
 · go_enter Tryz.func86,Tryz.ntmps86
   go_wp2_with fail
   go_ret;exact⟨rfl,rfl⟩
 · have h2:2147483647<v:=hv.resolve_left h1
   go_enter Tryz.func86,Tryz.ntmps86
   go_wp2_with fail
   go_ret;exact⟨rfl,rfl⟩
theorem KAK (hm:S.st.mode=1) (v:Int) (h1:1≤v) (h2:v≤2147483647) (h3:v≤(S.st.view:Nat)):Calls Tryz.prog 86 #[.pointer (some ⟨s,0,none⟩),.int .i64 v,.int .i64 2] w fun e w'=>e=.returned (.int .i64 8)∧w=w':=by
 obtain⟨c0,c1,c2,c3,c4,c5,c6,c7,c8,c9,c10,c11,c12,c13,c14,c15,c16,c17⟩:=VC h.blk;rw[hm] at c5;have q1:¬ v<1:=by omega
 have q2:¬ 2147483647<v:=by omega
 go_enter Tryz.func86,Tryz.ntmps86
 go_wp2_with fail
 go_ret;exact⟨rfl,rfl⟩
end
structure FrP (w0 w:World) (B f r s d x:Nat) (Fs:List Nat) (S:PS):Prop where
 blk:Blk w f 218 #[.pointer (some ⟨r,0,none⟩)]
 rblk:Blk w r 224 #[.pointer (some ⟨s,0,none⟩),.pointer (some ⟨x,0,none⟩)]
 st:StoreAt w w0.heap.size s d Fs B S
 fs:f∉Fs
 rs:r∉Fs
 kept:Keep [] w0 w
 mode:S.st.mode=2
namespace FrP
variable {w0 w w':World} {B f r s d x:Nat} {Fs:List Nat} {S:PS}
theorem keep0 (h:FrP w0 w B f r s d x Fs S) (hk:Keep [] w w'):FrP w0 w' B f r s d x Fs S:=⟨h.blk.keep0 hk,h.rblk.keep0 hk,h.st.keep0 hk,h.fs,h.rs,h.kept.trans0 hk,h.mode⟩
theorem turn (h:FrP w0 w B f r s d x Fs S) {Fs':List Nat} {S':PS} (hs:StoreAt w' w0.heap.size s d Fs' B S') (hk:Keep Fs w w') (hg:Grow w Fs Fs') (hm:S'.st.mode=2):FrP w0 w' B f r s d x Fs' S':=by
 have h1:=h.blk.lt;have h2:=h.rblk.lt;have hge:=h.st.ge;exact⟨h.blk.keep hk h.fs,h.rblk.keep hk h.rs,hs,fun q=>(hg f q).elim h.fs (by omega),fun q=>(hg r q).elim h.rs (by omega),h.kept.trans hk (fun y hy=>.inr (hge y hy)),hm⟩
theorem promote_no (h:FrP w0 w B f r s d x Fs S) (v:Int):Calls Tryz.prog 28 #[.pointer (some ⟨f,0,none⟩),.int .i64 v] w fun e w'=>e=.returned (.int .i64 7)∧w=w':=by
 obtain⟨g,t,p,m,Fd,Ft,Fw,Fm,L0,L1,hs,_⟩:=h.st;refine YY h.blk h.rblk ((ZAO w _ s d g t p m Fd Ft Fw Fm L0 L1 B S hs h.mode v).mono ?_);rintro e w' ⟨rfl,hk⟩;exact⟨7,rfl,rfl,hk⟩
theorem read (h:FrP w0 w B f r s d x Fs S) (k j:Nat) (hg:Good B S k j) (b:Nat) (hb:b<B) :
 Calls Tryz.prog 33 #[.pointer (some ⟨f,0,none⟩),.int .i64 (b:Nat)] w fun e w'=>∃ UA uc,e=.returned (.tuple #[.slice UA 64 uc,.int .i64 0])∧w'.ownsRow w.heap.size 5 1 (.slice UA 64 uc) 64 (bys ((KG B S).getD b []))∧Keep [] w w':=by
 have hS:=fun W (hk:Keep [] w W)=>KT W f r s x (h.blk.keep0 hk) (h.rblk.keep0 hk);have hT:=JI w _ s d Fs B S h.st;have hR:=fun W (hk:Keep [] w W)=>YAx W _ s d Fs B S (h.st.keep0 hk) k j hg b hb;have hmo:=h.mode;rw[hmo] at hT;have hfd:=fun(a0 a1 a2 a3 a4 a5 a6 a7 a8 a9:Value) W=>ZE (P:=Tryz.prog) Tryz.underlying72 0 rfl Tryz.isAgg3 #[a0,a1,a2,a3,a4,a5,a6,a7,a8,a9] rfl W
 go_enter Tryz.func33,Tryz.ntmps33
 have hS1:=hS w (Keep.refl _ _)
 go_wp2_with (first
  | (go_at_call 79;refine hS1.mono ?_;clear hS1;rintro e w' ⟨rfl,rfl⟩)
  | (go_at_call 85;refine hT.mono ?_;clear hT;rintro e w1 ⟨rfl,hk1⟩;have hS1:=hS _ hk1;have hR1:=hR _ hk1)
  | (go_at_call 89;refine hR1.mono ?_;clear hR1;rintro e w2 ⟨UA,uc,rfl,hu,hk2⟩))
 go_ret2;exact⟨UA,uc,rfl,ZC hu hk1.size,hk1.trans0 hk2⟩
theorem write (h:FrP w0 w B f r s d x Fs S) (k j:Nat) (hg:Good B S k j) (hk:k≤50) (hj:j≤20000) (b:Nat) (hb:b<B) (A:Option Addr) (c:Nat) (bs:List UInt8) (hr:Rd w A 64 (bys bs)) (hA:∀ x,A=some x→x.block∉Fs) :
 Calls Tryz.prog 34 #[.pointer (some ⟨f,0,none⟩),.int .i64 (b:Nat),.slice A 64 c] w fun e w'=>e=.returned (.int .i64 0)∧∃ F' S',FrP w0 w' B f r s d x F' S'∧PutDone B S b bs S'∧Good B S' (k+1) (j+1)∧Keep Fs w w'∧Grow w Fs F':=by
 have hS:=KT w f r s x h.blk h.rblk;have hP:=QBI w _ s d Fs B S h.st k j hg hk hj h.mode b hb A c bs hr hA;have hbl:bs.length=64:=by simpa using hr.1
 go_enter Tryz.func34,Tryz.ntmps34
 go_wp2_with (first
  | (go_at_call 79;refine hS.mono ?_;clear hS;rintro e w' ⟨rfl,rfl⟩)
  | (go_at_call 90;refine hP.mono ?_;clear hP;rintro e w1 ⟨rfl,F',S',h1,h2,h3,h4⟩))
 go_ret;obtain⟨g1,g2,g3⟩:=h2.good hg hk hb hbl;exact⟨rfl,F',S',h.turn h1 h3 h4 (by rw[g3];exact h.mode),h2,g1,h3,h4⟩
end FrP
theorem FrSt.promote {w0 w:World} {B f r s d x:Nat} {Fs Fx:List Nat} {R:RS} (h:FrSt w0 w B f r s d x Fs Fx R) (k j:Nat) (hg:Good B R.S k j) (hx:Ext B R.S) (hj:j≤20000) (hgen:R.S.st.gen≤100000) (v:Nat) (hv:R.S.st.view<v) (hv2:v≤2147483647) :
 Calls Tryz.prog 28 #[.pointer (some ⟨f,0,none⟩),.int .i64 (v:Nat)] w fun e w'=>e=.returned (.int .i64 0)∧∃ F' S',FrP w0 w' B f r s d x F' S'∧Raised B R.S v 2 S'∧Keep Fs w w'∧Grow w Fs F':=by
 have hRa:=JAH w _ s d Fs B R.S h.rep.st k j hg hx hj h.rep.mode hgen v 2 hv hv2 (.inr rfl);refine YY h.blk h.rep.blk (hRa.mono ?_);rintro e w' ⟨rfl,F',S',h1,h2,h3,h4⟩;have hf1:=h.blk.lt;have hr1:=h.rep.blk.lt;have hge:=h.rep.st.ge;have hfs:f∉Fs:=fun q=>h.fn (by simp[JO,q]);exact⟨0,rfl,rfl,F',S',⟨h.blk.keep h3 hfs,h.rep.blk.keep h3 h.rep.rs,h1,fun q=>(h4 f q).elim hfs (by omega),fun q=>(h4 r q).elim h.rep.rs (by omega),h.kept.trans h3 (fun y hy=>.inr (hge y hy)),by rw[(h2.good hg hx (by omega)).2.2.2.2.1]⟩,h2,h3,h4⟩
theorem FrSt.promote_arg {w0 w:World} {B f r s d x:Nat} {Fs Fx:List Nat} {R:RS} (h:FrSt w0 w B f r s d x Fs Fx R) (v:Int) (hv:v<1∨2147483647<v):Calls Tryz.prog 28 #[.pointer (some ⟨f,0,none⟩),.int .i64 v] w fun e w'=>e=.returned (.int .i64 1)∧w=w':=by
 obtain⟨g,t,p,m,Fd,Ft,Fw,Fm,L0,L1,hs,_⟩:=h.rep.st;refine YY h.blk h.rep.blk ((QAY w _ s d g t p m Fd Ft Fw Fm L0 L1 B _ hs h.rep.mode v hv).mono ?_);rintro e w' ⟨rfl,hk⟩;exact⟨1,rfl,rfl,hk⟩
theorem FrSt.promote_view {w0 w:World} {B f r s d x:Nat} {Fs Fx:List Nat} {R:RS} (h:FrSt w0 w B f r s d x Fs Fx R) (v:Int) (h1:1≤v) (h2:v≤2147483647) (h3:v≤(R.S.st.view:Nat)):Calls Tryz.prog 28 #[.pointer (some ⟨f,0,none⟩),.int .i64 v] w fun e w'=>e=.returned (.int .i64 8)∧w=w':=by
 obtain⟨g,t,p,m,Fd,Ft,Fw,Fm,L0,L1,hs,_⟩:=h.rep.st;refine YY h.blk h.rep.blk ((KAK w _ s d g t p m Fd Ft Fw Fm L0 L1 B _ hs h.rep.mode v h1 h2 h3).mono ?_);rintro e w' ⟨rfl,hk⟩;exact⟨8,rfl,rfl,hk⟩
theorem JAY (w:World):Calls Tryz.prog 139 #[.pointer none] w fun e w'=>e=.returned (.pointer none)∧w=w':=by
 go_enter Tryz.func139,Tryz.ntmps139
 go_wp2
 go_ret;exact⟨rfl,rfl⟩
theorem Yx (w:World):Calls Tryz.prog 79 #[.pointer none] w fun e w'=>e=.returned (.pointer none)∧w=w':=by
 have hE:=ZAx w;have hS:=JAY w
 go_enter Tryz.func79,Tryz.ntmps79
 go_wp2_with (first
  | (go_at_call 82;refine hE.mono ?_;clear hE;rintro e w' ⟨rfl,rfl⟩)
  | (go_at_call 139;refine hS.mono ?_;clear hS;rintro e w' ⟨rfl,rfl⟩))
 go_ret;exact⟨rfl,rfl⟩
theorem QAl (w:World) (m:Int) (b:Bool):Calls Tryz.prog 51 #[.pointer none,.int .i64 m,.bool b] w fun e w'=>e=.returned (.int .i64 3)∧w=w':=by
 go_enter Tryz.func51,Tryz.ntmps51
 go_wp2
 go_ret;exact⟨rfl,rfl⟩
theorem ZAk (w:World):Calls Tryz.prog 92 #[.pointer none] w fun e w'=>e=.returned (.int .i64 3)∧w=w':=by
 have hA:=QAl w 2 true
 go_enter Tryz.func92,Tryz.ntmps92
 go_wp2_with (refine hA.mono ?_;rintro e w' ⟨rfl,rfl⟩)
 go_ret;exact⟨rfl,rfl⟩
theorem YAW (w:World):Calls Tryz.prog 36 #[.pointer none] w fun e w'=>e=.returned (.int .i64 3)∧w=w':=by
 have hS:=Yx w;have hP:=ZAk w
 go_enter Tryz.func36,Tryz.ntmps36
 go_wp2_with (first
  | (go_at_call 79;refine hS.mono ?_;clear hS;rintro e w' ⟨rfl,rfl⟩)
  | (go_at_call 92;refine hP.mono ?_;clear hP;rintro e w' ⟨rfl,rfl⟩))
 go_ret;exact⟨rfl,rfl⟩
theorem QAw (w:World):Calls Tryz.prog 77 #[.pointer none,.int .i64 17] w fun e w'=>e=.returned (.tuple #[.pointer none,.int .i64 1])∧w=w':=by
 go_enter Tryz.func77,Tryz.ntmps77
 go_wp2
 go_ret2;exact⟨rfl,rfl⟩
end
section
open Go.RowKit
structure PIdl where
 base:List (List UInt8)
 over:List (Option (List UInt8))
 ep:Nat
 seq:Nat
 done:Nat
def PIdl.new (B:Nat):PIdl:=⟨List.replicate B zeros64,List.replicate B none,0,0,0⟩
def PIdl.step (I:PIdl) (o:POp):PIdl:=
 if o.k=1 then { I with over:=I.over.set o.b.toNat (some o.d),seq:=I.seq+1 }
 else if o.k=2 then { I with over:=JV I.over o.b.toNat o.c.toNat (some zeros64),seq:=I.seq+1 }
 else { base:=JQ I.base I.over,over:=List.replicate I.over.length none,ep:=I.ep+1,seq:=I.seq+1,done:=I.seq+1 }
def idl (B:Nat) (ops:Nat→POp):Nat→PIdl
 | 0=>PIdl.new B
 | n+1=>(idl B ops n).step (ops n)
def JBI (B:Nat) (ops:Nat→POp) (len:Nat):Prop:=∀ j<len,Xe B (ops j)∧((ops j).k=3→(ops j).e=((idl B ops j).ep:Nat)+1)
structure Stm (B:Nat) (ops:Nat→POp) (n:Nat) (S:PS):Prop where
 good:Good B S n (2*n)
 base:KG B S=(idl B ops n).base
 over:XR B S=(idl B ops n).over
 epoch:S.st.epoch=(idl B ops n).ep
 seq:S.st.seq=(idl B ops n).seq
 done:S.st.done=(idl B ops n).done
theorem ZV {α:Type} (l:List α) (b n:Nat) (v:α):(JV l b n v).length=l.length:=by simp[JV]
theorem ZBL (B:Nat) (ops:Nat→POp) (n:Nat):(idl B ops n).seq=n:=by
 induction n with
 | zero=>rfl
 | succ n ih=>
   simp only[idl,PIdl.step]
   split
   · simp[ih]
   · split <;> simp[ih]
theorem JAO (B:Nat) (ops:Nat→POp) (n:Nat):(idl B ops n).base.length=B∧(idl B ops n).over.length=B:=by
 induction n with
 | zero=>simp[idl,PIdl.new]
 | succ n ih=>
   simp only[idl,PIdl.step]
   split
   · simp[ih]
   · split
     · simp[ih,ZV]
     · simp[ih,JQ]
theorem Does.stm {B n:Nat} {S S':PS} {ops:Nat→POp} (h:Does B S (ops n) S') (ho:Xe B (ops n)) (hs:Stm B ops n S) (hn:n≤45):Stm B ops (n+1) S'∧S'.st.view=S.st.view∧S'.st.mode=S.st.mode:=by
 have hg:=hs.good;obtain⟨hgd,_⟩:=h.good ho hg (by omega) (by omega);have hgd':Good B S' (n+1) (2*(n+1)):=hgd;rcases h with⟨h1,h2⟩ | ⟨h1,h2⟩ | ⟨h1,h2,h3⟩
 · rcases ho with⟨_,o1,o2,o3⟩ | ⟨o0,_⟩ | ⟨o0,_⟩
   · obtain⟨g1,g2,g3,g4⟩:=h2.good hg (by omega) (by omega) o3
     refine⟨⟨hgd',?_,?_,?_,?_,?_⟩,by rw[g4],by rw[g4]⟩ <;> simp only[idl,PIdl.step,if_pos h1]
     · rw[g2,hs.base]
     · rw[g3,hs.over]
     · rw[g4];exact hs.epoch
     · rw[g4];simp only;rw[hs.seq]
     · rw[g4];exact hs.done
   · omega
   · omega
 · have h1':¬ (ops n).k=1:=by omega
   rcases ho with⟨o0,_⟩ | ⟨_,o1,o2,o3⟩ | ⟨o0,_⟩
   · omega
   · obtain⟨g1,g2,g3,g4⟩:=h2.good hg (by omega) (by omega) (by omega)
     refine⟨⟨hgd',?_,?_,?_,?_,?_⟩,by rw[g4],by rw[g4]⟩ <;> simp only[idl,PIdl.step,if_neg h1',if_pos h1]
     · rw[g2,hs.base]
     · rw[g3,hs.over]
     · rw[g4];exact hs.epoch
     · rw[g4];simp only;rw[hs.seq]
     · rw[g4];exact hs.done
   · omega
 · have h1':¬ (ops n).k=1:=by omega
   have h2':¬ (ops n).k=2:=by omega
   have he:=hg.epoch;obtain⟨g1,g2,g3,g4⟩:=h3.good hg (by omega) (by omega) (by omega);refine⟨⟨hgd',?_,?_,?_,?_,?_⟩,by rw[g4],by rw[g4]⟩ <;> simp only[idl,PIdl.step,if_neg h1',if_neg h2']
   · rw[g2,hs.base,hs.over]
   · rw[g3,(JAO B ops n).2]
   · rw[g4];simp only;have:=hs.epoch;omega
   · rw[g4];simp only;rw[hs.seq]
   · rw[g4];simp only;rw[hs.seq]
theorem mod_one {N s a b:Nat} (ha:s≤a∧a<s+N) (hb:s≤b∧b<s+N) (h:a % N=b % N):a=b:=by
 rcases Nat.le_total a b with hab | hab
 · have h1:=Nat.sub_mod_eq_zero_of_mod_eq h.symm
   rw[Nat.mod_eq_of_lt (by omega)] at h1;omega
 · have h1:=Nat.sub_mod_eq_zero_of_mod_eq h
   rw[Nat.mod_eq_of_lt (by omega)] at h1;omega
structure WinRel (ops:Nat→POp) (len next:Nat) (th:List Bool) (sl:List PSlot):Prop where
 pos:1≤sl.length
 thl:th.length=len+1
 thz:th.getD len false=false
 lo:∀ j<next,th.getD j false=true
 hi:∀ j,th.getD j false=true→j<next+sl.length
 sl:∀ i<sl.length,(sl.getD ((next+i+1) % sl.length) PSlot.none_).is=th.getD (next+i) false∧((sl.getD ((next+i+1) % sl.length) PSlot.none_).is=true→(sl.getD ((next+i+1) % sl.length) PSlot.none_).o=ops (next+i))
 nle:next≤len
theorem QAB {sl:List PSlot} {i k:Nat} {q:PSlot} (hi:i<sl.length):(sl.set i q).getD k PSlot.none_=if i=k then q else sl.getD k PSlot.none_:=by
 rw[List.getD_eq_getElem?_getD,List.getElem?_set]
 split
 · rename_i e
   subst e;simp[hi]
 · rw[List.getD_eq_getElem?_getD]
theorem KS {l:List Bool} {i k:Nat} {b:Bool} (hi:i<l.length):(l.set i b).getD k false=if i=k then b else l.getD k false:=by
 rw[List.getD_eq_getElem?_getD,List.getElem?_set]
 split
 · rename_i e
   subst e;simp[hi]
 · rw[List.getD_eq_getElem?_getD]
theorem WinRel.put {ops:Nat→POp} {len next:Nat} {th:List Bool} {sl:List PSlot} (h:WinRel ops len next th sl) {j:Nat} (hj:j<len) (h1:next≤j) (h2:j<next+sl.length) (v:Value) :
 WinRel ops len next (th.set j true) (sl.set ((j+1) % sl.length) ⟨v,ops j,true⟩):=by
 have hp:=h.pos;have hl:=h.thl;have hlt:(j+1) % sl.length<sl.length:=Nat.mod_lt _ hp;refine⟨by simpa using hp,by simpa using hl,?_,?_,?_,?_,h.nle⟩
 · rw[KS (by omega),if_neg (by omega)];exact h.thz
 · intro i hi
   rw[KS (by omega)]
   split
   · rfl
   · exact h.lo i hi
 · intro i hi
   rw[KS (by omega)] at hi;rw[List.length_set]
   split at hi
   · omega
   · exact h.hi i hi
 · intro i hi
   rw[List.length_set] at hi ⊢;rw[QAB hlt,KS (by omega)]
   by_cases e:j=next+i
   · subst e
     rw[if_pos rfl,if_pos rfl];exact⟨rfl,fun _=>rfl⟩
   · have hne:¬ (j+1) % sl.length=(next+i+1) % sl.length:=fun hm=>e (by
      have:=mod_one (s:=next+1) ⟨by omega,by omega⟩ ⟨by omega,by omega⟩ hm;omega)
     rw[if_neg hne,if_neg e];exact h.sl i hi
end
section
open Go.RowKit
def JAJ (B:Nat) (zs:List (Int×Int×Int)) (j:Nat):POp:=(ZN B (zs.getD j (0,0,0)) (QM B zs j).2).1
theorem YBD (B:Nat) (zs:List (Int×Int×Int)) (j:Nat):(idl B (JAJ B zs) j).ep=(QM B zs j).2:=by
 induction j with
 | zero=>rfl
 | succ j ih=>
   rw[Xo];simp only[idl,PIdl.step];rcases Vf B (zs.getD j (0,0,0)) (QM B zs j).2 with⟨h1,_,h3⟩ | ⟨h1,h3⟩
   · have h1':(JAJ B zs j).k=3:=h1
     rw[if_neg (by omega),if_neg (by omega),h3];simp only[ih]
   · have h1':(JAJ B zs j).k≠3:=h1
     rw[h3,← ih]
     split
     · rfl
     · split
       · rfl
       · exfalso
         have hk:(JAJ B zs j).k=1∨(JAJ B zs j).k=2∨(JAJ B zs j).k=3:=by
          unfold JAJ ZN
          split
          · exact .inr (.inr rfl)
          · split
            · exact .inr (.inl rfl)
            · exact .inl rfl
         omega
theorem ZBD {B:Nat} (hB:1≤B∧B≤64) (zs:List (Int×Int×Int)) {len:Nat} (hl:len≤1000000):JBI B (JAJ B zs) len:=by
 intro j hj;have he:=Zk B zs j;refine⟨(Kj B hB _ _ (by omega)).1,fun hk=>?_⟩;rw[YBD];rcases Vf B (zs.getD j (0,0,0)) (QM B zs j).2 with⟨_,h2,_⟩ | ⟨h1,_⟩
 · exact h2
 · exact absurd hk h1
theorem KAr {B:Nat} {S:PS} {ops:Nat→POp} (hg:Good B S 0 0) (hb:S.I.bl=List.replicate B 0) (ho:S.I.ol=List.replicate B (-1)) (h1:S.st.epoch=0) (h2:S.st.seq=0) (h3:S.st.done=0):Stm B ops 0 S:=by
 refine⟨hg,?_,?_,h1,h2,h3⟩
 · unfold KG
   rw[hb,List.map_replicate];simp[idl,PIdl.new,KI]
 · unfold XR
   rw[ho,List.map_replicate];simp[idl,PIdl.new]
end
section
open Go.RowKit Go.Shelf
def ORow (w:World) (base:Nat) (v:Value) (o:Option (List UInt8)):Prop:=(o=none∧v=.slice none 0 0)∨∃ xs,o=some xs∧xs.length=64∧w.ownsRow base 5 1 v 64 (bys xs)
theorem ORow.keep {w w':World} {base:Nat} {v:Value} {o:Option (List UInt8)} {l:List Nat} (h:ORow w base v o) (hk:Keep l w w') (hv:∀ g∈v.ownBlock.toList,g∉l):ORow w' base v o:=by
 rcases h with h | ⟨xs,h1,h2,h3⟩
 · exact .inl h
 · exact .inr ⟨xs,h1,h2,QB h3 hk (fun g hg=>hv g (by simp[hg]))⟩
theorem ORow.rd {w:World} {base:Nat} {v:Value} {xs:List UInt8} (h:ORow w base v (some xs)):∃ g c,v=.slice (some ⟨g,0,none⟩) 64 c∧Rd w (some ⟨g,0,none⟩) 64 (bys xs)∧xs.length=64∧64≤c:=by
 rcases h with⟨h,_⟩ | ⟨ys,h1,h2,h3⟩
 · cases h
 · cases h1
   obtain⟨g,c,rfl,hc⟩:=JN h3 (by omega);exact⟨g,c,rfl,Rd.of_own h3,h2,hc⟩
theorem ORow.nil {w:World} {base:Nat} {v:Value} (h:ORow w base v none):v=.slice none 0 0:=by
 rcases h with⟨_,h⟩ | ⟨ys,h1,_⟩
 · exact h
 · cases h1
theorem ORow.lt {w:World} {base:Nat} {v:Value} {o:Option (List UInt8)} (h:ORow w base v o):∀ g∈v.ownBlock.toList,base≤g∧g<w.heap.size:=by
 rcases h with⟨_,rfl⟩ | ⟨ys,_,_,h3⟩
 · intro g hg;simp[Value.ownBlock] at hg
 · exact fun g hg=>own_mem h3 hg
structure IdlIs (w:World) (base i:Nat) (bv ov:Value) (bs:List (Value×List UInt8)) (os:List (Value×Option (List UInt8))) (F:List Nat) (I:PIdl):Prop where
 blk:Blk w i 156 #[bv,ov,.int .i64 I.ep,.int .i64 I.seq,.int .i64 I.done]
 brow:w.ownsRow base 39 1 bv bs.length (bs.map (·.1))
 orow:w.ownsRow base 39 1 ov os.length (os.map (·.1))
 bdat:∀ q∈bs,ORow w base q.1 (some q.2)
 odat:∀ q∈os,ORow w base q.1 q.2
 bsnd:bs.map (·.2)=I.base
 osnd:os.map (·.2)=I.over
 ne:bv.ownBlock≠ov.ownBlock
 foot:F=i :: (bv.ownBlock.toList++(ov.ownBlock.toList++(bs.flatMap (fun q=>q.1.ownBlock.toList)++os.flatMap (fun q=>q.1.ownBlock.toList))))
 base:base≤i
def JAs (w:World) (base i:Nat) (F:List Nat) (I:PIdl):Prop:=∃ bv ov bs os,IdlIs w base i bv ov bs os F I
namespace IdlIs
variable {w w':World} {base i:Nat} {bv ov:Value} {bs:List (Value×List UInt8)} {os:List (Value×Option (List UInt8))} {F l:List Nat} {I:PIdl}
theorem inI (h:IdlIs w base i bv ov bs os F I):i∈F:=by rw[h.foot];simp
theorem inB (h:IdlIs w base i bv ov bs os F I):∀ x∈bv.ownBlock.toList,x∈F:=fun x hx=>by rw[h.foot];simp only[List.mem_cons,List.mem_append];exact .inr (.inl hx)
theorem inO (h:IdlIs w base i bv ov bs os F I):∀ x∈ov.ownBlock.toList,x∈F:=fun x hx=>by rw[h.foot];simp only[List.mem_cons,List.mem_append];exact .inr (.inr (.inl hx))
theorem inBs (h:IdlIs w base i bv ov bs os F I) {q:Value×List UInt8} (hq:q∈bs):∀ x∈q.1.ownBlock.toList,x∈F:=fun x hx=>by
 rw[h.foot];simp only[List.mem_cons,List.mem_append];exact .inr (.inr (.inr (.inl (List.mem_flatMap.2 ⟨q,hq,hx⟩))))
theorem inOs (h:IdlIs w base i bv ov bs os F I) {q:Value×Option (List UInt8)} (hq:q∈os):∀ x∈q.1.ownBlock.toList,x∈F:=fun x hx=>by
 rw[h.foot];simp only[List.mem_cons,List.mem_append];exact .inr (.inr (.inr (.inr (List.mem_flatMap.2 ⟨q,hq,hx⟩))))
theorem keep (h:IdlIs w base i bv ov bs os F I) (hk:Keep l w w') (ha:Apart F l):IdlIs w' base i bv ov bs os F I:=
 ⟨h.blk.keep hk (ha _ h.inI),QB h.brow hk (fun x hx=>ha _ (h.inB x (by simp[hx]))),QB h.orow hk (fun x hx=>ha _ (h.inO x (by simp[hx]))),fun q hq=>(h.bdat q hq).keep hk (fun x hx=>ha _ (h.inBs hq x hx)),
   fun q hq=>(h.odat q hq).keep hk (fun x hx=>ha _ (h.inOs hq x hx)),h.bsnd,h.osnd,h.ne,h.foot,h.base⟩
theorem keep0 (h:IdlIs w base i bv ov bs os F I) (hk:Keep [] w w'):IdlIs w' base i bv ov bs os F I:=h.keep hk Apart.nil_right
theorem mem (h:IdlIs w base i bv ov bs os F I) {x:Nat} (hx:x∈F):x=i∨x∈bv.ownBlock.toList∨x∈ov.ownBlock.toList∨(∃ q∈bs,x∈q.1.ownBlock.toList)∨∃ q∈os,x∈q.1.ownBlock.toList:=by
 rw[h.foot] at hx;simpa only[List.mem_cons,List.mem_append,List.mem_flatMap] using hx
theorem lt (h:IdlIs w base i bv ov bs os F I):∀ x∈F,base≤x∧x<w.heap.size:=fun x hx=>by
 rcases h.mem hx with rfl | hx | hx | ⟨q,hq,hx⟩ | ⟨q,hq,hx⟩
 · exact⟨h.base,h.blk.lt⟩
 · exact own_mem h.brow hx
 · exact own_mem h.orow hx
 · exact(h.bdat q hq).lt x hx
 · exact(h.odat q hq).lt x hx
theorem blen (h:IdlIs w base i bv ov bs os F I):bs.length=I.base.length:=by rw[← h.bsnd];simp
theorem olen (h:IdlIs w base i bv ov bs os F I):os.length=I.over.length:=by rw[← h.osnd];simp
theorem oget (h:IdlIs w base i bv ov bs os F I) {k:Nat} (hk:k<os.length):I.over[k]? = some os[k].2:=by rw[← h.osnd,List.getElem?_map,List.getElem?_eq_getElem hk];rfl
theorem iB (h:IdlIs w base i bv ov bs os F I):i∉bv.ownBlock.toList:=fun hm=>own_blk_ne h.brow h.blk (by decide) (by simpa using hm)
theorem iO (h:IdlIs w base i bv ov bs os F I):i∉ov.ownBlock.toList:=fun hm=>own_blk_ne h.orow h.blk (by decide) (by simpa using hm)
end IdlIs
end
section
open Go.RowKit
theorem XAu {α:Type} (l:List α) (b:Nat) (v:α):JV l b 0 v=l:=by
 apply List.ext_getElem?;intro x;rw[ZY,if_neg (by omega)]
theorem XAw {α:Type} (l:List α) (b m:Nat) (v:α) (h:b+m<l.length):JV l b (m+1) v=(JV l b m v).set (b+m) v:=by
 apply List.ext_getElem?;intro x;rw[ZY,List.getElem?_set,ZY,ZV]
 by_cases e:b+m=x
 · subst e
   rw[if_pos rfl,if_pos h,if_pos (by omega)]
 · rw[if_neg e]
   by_cases hx:b≤x∧x<b+m∧x<l.length
   · rw[if_pos hx,if_pos (by omega)]
   · rw[if_neg hx,if_neg (by omega)]
def Xm (base:List (List UInt8)) (over:List (Option (List UInt8))) (m:Nat):List (List UInt8):=(JQ base over).take m++base.drop m
def JX (over:List (Option (List UInt8))) (m:Nat):List (Option (List UInt8)):=List.replicate m none++over.drop m
section
variable {base:List (List UInt8)} {over:List (Option (List UInt8))} {m:Nat} (h:base.length=over.length) (hm:m≤over.length)
include h hm
theorem Yg (x:Nat):(Xm base over m)[x]? = if x<m then (JQ base over)[x]? else base[x]? := by
 have hl:(JQ base over).length=over.length:=by simp[JQ,h]
 unfold Xm;rw[List.getElem?_append];simp only[List.length_take,hl]
 by_cases hx:x<m
 · rw[if_pos (by omega),if_pos hx,List.getElem?_take,if_pos hx]
 · rw[if_neg (by omega),if_neg hx,List.getElem?_drop]
   congr 1;omega
omit h hm in
theorem ZX (x:Nat):(JX over m)[x]? = if x<m then some none else over[x]? := by
 unfold JX;rw[List.getElem?_append];simp only[List.length_replicate]
 by_cases hx:x<m
 · rw[if_pos hx,if_pos hx,List.getElem?_replicate,if_pos hx]
 · rw[if_neg hx,if_neg hx,List.getElem?_drop]
   congr 1;omega
theorem comAt_len:(Xm base over m).length=over.length∧(JX over m).length=over.length:=by
 constructor
 · simp only[Xm,List.length_append,List.length_take,List.length_drop,JQ,List.length_zipWith,h];omega
 · simp only[JX,List.length_append,List.length_replicate,List.length_drop];omega
end
theorem YAu {base:List (List UInt8)} {over:List (Option (List UInt8))} {m:Nat} (h:base.length=over.length) (hm:m<over.length) {xs:List UInt8} (ho:over[m]? = some (some xs)) :
 Xm base over (m+1)=(Xm base over m).set m xs∧JX over (m+1)=(JX over m).set m none:=by
 have hb:base[m]? = some base[m]:=List.getElem?_eq_getElem (by omega);constructor
 · apply List.ext_getElem?
   intro x;rw[Yg h (by omega),List.getElem?_set,Yg h (by omega),(comAt_len h (by omega)).1]
   by_cases e:m=x
   · subst e
     rw[if_pos (by omega),if_pos rfl,if_pos hm];unfold JQ;rw[List.getElem?_zipWith,hb,ho];rfl
   · rw[if_neg e]
     by_cases hx:x<m
     · rw[if_pos hx,if_pos (by omega)]
     · rw[if_neg hx,if_neg (by omega)]
 · apply List.ext_getElem?
   intro x;rw[ZX,List.getElem?_set,ZX,(comAt_len h (by omega)).2]
   by_cases e:m=x
   · subst e
     rw[if_pos (by omega),if_pos rfl,if_pos hm]
   · rw[if_neg e]
     by_cases hx:x<m
     · rw[if_pos hx,if_pos (by omega)]
     · rw[if_neg hx,if_neg (by omega)]
theorem VAx {base:List (List UInt8)} {over:List (Option (List UInt8))} {m:Nat} (h:base.length=over.length) (hm:m<over.length) (ho:over[m]? = some none) :
 Xm base over (m+1)=Xm base over m∧JX over (m+1)=JX over m:=by
 have hb:base[m]? = some base[m]:=List.getElem?_eq_getElem (by omega);constructor
 · apply List.ext_getElem?
   intro x;rw[Yg h (by omega),Yg h (by omega)]
   by_cases e:m=x
   · subst e
     rw[if_pos (by omega),if_neg (by omega)];unfold JQ;rw[List.getElem?_zipWith,hb,ho];rfl
   · by_cases hx:x<m
     · rw[if_pos hx,if_pos (by omega)]
     · rw[if_neg hx,if_neg (by omega)]
 · apply List.ext_getElem?
   intro x;rw[ZX,ZX]
   by_cases e:m=x
   · subst e
     rw[if_pos (by omega),if_neg (by omega),ho]
   · by_cases hx:x<m
     · rw[if_pos hx,if_pos (by omega)]
     · rw[if_neg hx,if_neg (by omega)]
theorem XBG {base:List (List UInt8)} {over:List (Option (List UInt8))} (h:base.length=over.length):Xm base over over.length=JQ base over∧JX over over.length=List.replicate over.length none:=by
 constructor
 · unfold Xm
   rw[List.take_of_length_le (by simp[JQ,h]),List.drop_of_length_le (by omega),List.append_nil]
 · unfold JX
   rw[List.drop_of_length_le (by omega),List.append_nil]
end
section
open Go.RowKit Go.Shelf
namespace IdlIs
variable {w w1:World} {base i:Nat} {bv ov:Value} {bs:List (Value×List UInt8)} {os:List (Value×Option (List UInt8))} {F:List Nat} {I:PIdl}
theorem row_ne {v:Value} {o:Option (List UInt8)} {u:Value} {n:Nat} {ys:List Value} (hv:ORow w base v o) (hu:w.ownsRow base 39 1 u n ys) {g:Nat} (hg:g∈v.ownBlock.toList):u.ownBlock≠some g:=by
 rcases hv with⟨_,rfl⟩ | ⟨xs,_,_,h3⟩
 · simp[Value.ownBlock] at hg
 · exact own_ne h3 hu (by decide) (by simpa using hg)
theorem setO {go n co:Nat} (h:IdlIs w base i bv (.slice (some ⟨go,0,none⟩) n co) bs os F I) (hk1:Keep [] w w1) {k:Nat} {v:Value} {o:Option (List UInt8)} (hv:ORow w1 base v o) :
 ∃ F',IdlIs (w1.setCell ⟨go,k,none⟩ v) base i bv (.slice (some ⟨go,0,none⟩) n co) bs (os.set k (v,o)) F' { I with over:=I.over.set k o }∧Keep [go] w1 (w1.setCell ⟨go,k,none⟩ v)∧∀ x∈F',x∈F∨x∈v.ownBlock.toList:=by
 have h1:=h.keep0 hk1;obtain rfl:n=os.length:=by obtain⟨_,_,e,_⟩:=ZB h1.orow;cases e;rfl
 have hk:Keep [go] w1 (w1.setCell ⟨go,k,none⟩ v):=(Keep.refl [go] w1).setCell (p:=⟨go,k,none⟩) (.inl (by simp)) _
 have hgo:∀ {u:Value} {p:Option (List UInt8)},ORow w1 base u p→∀ g∈u.ownBlock.toList,g∉[go]:=fun hu g hg hm=>by
  simp at hm;subst hm;exact row_ne hu h1.orow hg (by simp[Value.ownBlock])
 refine⟨_,⟨h1.blk.keep hk (fun hm=>h1.iO (by simp at hm;simp[Value.ownBlock,hm])),QB h1.brow hk (fun x hx hm=>?_),?_,fun q hq=>(h1.bdat q hq).keep hk (hgo (h1.bdat q hq)),fun q hq=>?_,h1.bsnd,?_,h1.ne,rfl,h1.base⟩,hk,fun x hx=>?_⟩
 · simp at hm;subst hm
   exact h1.ne (by rw[hx];rfl)
 · have:=JT h1.orow k v
   rw[List.length_set,List.map_set];exact this
 · rcases List.mem_or_eq_of_mem_set hq with hq | rfl
   · exact(h1.odat q hq).keep hk (hgo (h1.odat q hq))
   · exact hv.keep hk (hgo hv)
 · rw[List.map_set,h1.osnd]
 · simp only[List.mem_cons,List.mem_append,List.mem_flatMap] at hx
   rcases hx with hx | hx | hx | ⟨q,hq,hx⟩ | ⟨q,hq,hx⟩
   · exact .inl (by subst hx;exact h.inI)
   · exact .inl (h.inB x hx)
   · exact .inl (h.inO x hx)
   · exact .inl (h.inBs hq x hx)
   · rcases List.mem_or_eq_of_mem_set hq with hq | rfl
     · exact .inl (h.inOs hq x hx)
     · exact .inr hx
theorem setB {gb n cb:Nat} (h:IdlIs w base i (.slice (some ⟨gb,0,none⟩) n cb) ov bs os F I) (hk1:Keep [] w w1) {k:Nat} {v:Value} {xs:List UInt8} (hv:ORow w1 base v (some xs)) :
 ∃ F',IdlIs (w1.setCell ⟨gb,k,none⟩ v) base i (.slice (some ⟨gb,0,none⟩) n cb) ov (bs.set k (v,xs)) os F' { I with base:=I.base.set k xs }∧Keep [gb] w1 (w1.setCell ⟨gb,k,none⟩ v)∧∀ x∈F',x∈F∨x∈v.ownBlock.toList:=by
 have h1:=h.keep0 hk1;obtain rfl:n=bs.length:=by obtain⟨_,_,e,_⟩:=ZB h1.brow;cases e;rfl
 have hk:Keep [gb] w1 (w1.setCell ⟨gb,k,none⟩ v):=(Keep.refl [gb] w1).setCell (p:=⟨gb,k,none⟩) (.inl (by simp)) _
 have hgb:∀ {u:Value} {p:Option (List UInt8)},ORow w1 base u p→∀ g∈u.ownBlock.toList,g∉[gb]:=fun hu g hg hm=>by
  simp at hm;subst hm;exact row_ne hu h1.brow hg (by simp[Value.ownBlock])
 refine⟨_,⟨h1.blk.keep hk (fun hm=>h1.iB (by simp at hm;simp[Value.ownBlock,hm])),?_,QB h1.orow hk (fun x hx hm=>?_),fun q hq=>?_,fun q hq=>(h1.odat q hq).keep hk (hgb (h1.odat q hq)),?_,h1.osnd,h1.ne,rfl,h1.base⟩,hk,fun x hx=>?_⟩
 · have:=JT h1.brow k v
   rw[List.length_set,List.map_set];exact this
 · simp at hm;subst hm
   exact h1.ne (by rw[hx];rfl)
 · rcases List.mem_or_eq_of_mem_set hq with hq | rfl
   · exact(h1.bdat q hq).keep hk (hgb (h1.bdat q hq))
   · exact hv.keep hk (hgb hv)
 · rw[List.map_set,h1.bsnd]
 · simp only[List.mem_cons,List.mem_append,List.mem_flatMap] at hx
   rcases hx with hx | hx | hx | ⟨q,hq,hx⟩ | ⟨q,hq,hx⟩
   · exact .inl (by subst hx;exact h.inI)
   · exact .inl (h.inB x hx)
   · exact .inl (h.inO x hx)
   · rcases List.mem_or_eq_of_mem_set hq with hq | rfl
     · exact .inl (h.inBs hq x hx)
     · exact .inr hx
   · exact .inl (h.inOs hq x hx)
theorem setN (h:IdlIs w base i bv ov bs os F I) (ep seq done:Nat) (hb:Blk w1 i 156 #[bv,ov,.int .i64 ep,.int .i64 seq,.int .i64 done]) (hk:Keep [i] w w1):IdlIs w1 base i bv ov bs os F { I with ep:=ep,seq:=seq,done:=done }:=by
 have hr:∀ {u:Value} {p:Option (List UInt8)},ORow w base u p→ORow w1 base u p:=fun hu=>hu.keep hk (fun g hg hm=>by
  simp at hm;subst hm;rcases hu with⟨_,rfl⟩ | ⟨xs,_,_,h3⟩
  · simp[Value.ownBlock] at hg
  · exact own_blk_ne h3 h.blk (by decide) (by simpa using hg))
 exact⟨hb,QB h.brow hk (fun x hx hm=>h.iB (by simp at hm;subst hm;simpa using hx)),QB h.orow hk (fun x hx hm=>h.iO (by simp at hm;subst hm;simpa using hx)),fun q hq=>hr (h.bdat q hq),fun q hq=>hr (h.odat q hq),h.bsnd,h.osnd,h.ne,h.foot,h.base⟩
theorem cells (h:IdlIs w base i bv ov bs os F I):w.cell? ⟨i,0,none⟩=some bv∧w.cell? ⟨i,1,none⟩=some ov∧w.cell? ⟨i,2,none⟩=some (.int .i64 I.ep)∧w.cell? ⟨i,3,none⟩=some (.int .i64 I.seq)∧w.cell? ⟨i,4,none⟩=some (.int .i64 I.done):=
 ⟨by simpa using h.blk.cell 0,by simpa using h.blk.cell 1,by simpa using h.blk.cell 2,by simpa using h.blk.cell 3,by simpa using h.blk.cell 4⟩
end IdlIs
def XAH (I:PIdl) (k b c e n:Nat):Prop:=(k=1∧b<I.base.length∧c=0∧e=0∧n=64)∨(k=2∧1≤c∧b+c≤I.base.length∧e=0∧n=0)∨(k=3∧b=0∧c=0∧e=I.ep+1∧n=0)
theorem VAF (w:World) (base i:Nat) (bv ov:Value) (bs:List (Value×List UInt8)) (os:List (Value×Option (List UInt8))) (F:List Nat) (I:PIdl) (h:IdlIs w base i bv ov bs os F I) (hB:1≤I.base.length∧I.base.length≤64) (hep:I.ep≤1000000) (k b c e n m:Nat) (A:Option Addr) (hf:XAH I k b c e n) :
 Calls Tryz.prog 159 #[.pointer (some ⟨i,0,none⟩),.agg #[.int .i64 k,.int .i64 b,.int .i64 c,.int .i64 e,.slice A n m]] w fun e w'=>e=.returned (.bool true)∧Keep [] w w':=by
 obtain⟨BA,cb,rfl,_⟩:=ZB h.brow;have hlen:=h.blen;obtain⟨L,hL⟩:∃ L,L=bs.length:=⟨_,rfl⟩;rw[← hL] at hlen h;unfold XAH at hf;rw[← hlen] at hf hB;have hcl:=fun W (hk:Keep [] w W)=>(h.keep0 hk).cells;generalize I.ep=ep at *;clear h hL hlen;rcases hf with⟨rfl,h1,rfl,rfl,rfl⟩ | ⟨rfl,h1,h2,rfl,rfl⟩ | ⟨rfl,rfl,rfl,rfl,rfl⟩
 · show Calls Tryz.prog 159 #[.pointer (some ⟨i,0,none⟩),.agg #[.int .i64 1,.int .i64 b,.int .i64 0,.int .i64 0,.slice A 64 m]] w _
   have hkA:Keep [] w (w.alloc (.cells #[.int .i64 1,.int .i64 b,.int .i64 0,.int .i64 0,.slice A 64 m] 137)):=(Keep.refl _ _).alloc _;have hbO:=Blk.new w 137 #[.int .i64 1,.int .i64 b,.int .i64 0,.int .i64 0,.slice A 64 m];obtain⟨o0,o1,o2,o3,o4⟩:=JF hbO;obtain⟨c0,c1,c2,c3,c4⟩:=hcl _ hkA;clear hcl;have T1:=fun W=>VE (b:Nat) 0 ((L:Nat)-1) true (by simp;omega) W
   go_enter Tryz.func159,Tryz.ntmps159
   go_wp2_with (refine(T1 _).mono ?_;clear T1;rintro e w' ⟨rfl,rfl⟩)
   go_ret;exact⟨rfl,hkA⟩
 · show Calls Tryz.prog 159 #[.pointer (some ⟨i,0,none⟩),.agg #[.int .i64 2,.int .i64 b,.int .i64 c,.int .i64 0,.slice A 0 m]] w _
   have hkA:Keep [] w (w.alloc (.cells #[.int .i64 2,.int .i64 b,.int .i64 c,.int .i64 0,.slice A 0 m] 137)):=(Keep.refl _ _).alloc _;have hbO:=Blk.new w 137 #[.int .i64 2,.int .i64 b,.int .i64 c,.int .i64 0,.slice A 0 m];obtain⟨o0,o1,o2,o3,o4⟩:=JF hbO;obtain⟨c0,c1,c2,c3,c4⟩:=hcl _ hkA;clear hcl;have T1:=fun W=>VE (b:Nat) 0 ((L:Nat)-1) true (by simp;omega) W;have T2:=fun W=>VE (c:Nat) 1 ((L:Nat)-(b:Nat)) true (by simp;omega) W
   go_enter Tryz.func159,Tryz.ntmps159
   go_wp2_with (first
    | ((with_reducible refine(T1 _).mono ?_);clear T1;rintro e w' ⟨rfl,rfl⟩)
    | ((with_reducible refine(T2 _).mono ?_);clear T2;rintro e w' ⟨rfl,rfl⟩))
   go_ret;exact⟨rfl,hkA⟩
 · rw[show ((ep+1:Nat):Int)=((ep:Nat):Int)+1 by omega]
   show Calls Tryz.prog 159 #[.pointer (some ⟨i,0,none⟩),.agg #[.int .i64 3,.int .i64 0,.int .i64 0,.int .i64 (((ep:Nat):Int)+1),.slice A 0 m]] w _;have hkA:Keep [] w (w.alloc (.cells #[.int .i64 3,.int .i64 0,.int .i64 0,.int .i64 (((ep:Nat):Int)+1),.slice A 0 m] 137)):=(Keep.refl _ _).alloc _;have hbO:=Blk.new w 137 #[.int .i64 3,.int .i64 0,.int .i64 0,.int .i64 (((ep:Nat):Int)+1),.slice A 0 m];obtain⟨o0,o1,o2,o3,o4⟩:=JF hbO;obtain⟨c0,c1,c2,c3,c4⟩:=hcl _ hkA;clear hcl;have hw:IntKind.i64.wrap (((ep:Nat):Int)+1)=((ep:Nat):Int)+1:=by rw[IntKind.wrap_i64];omega
   go_enter Tryz.func159,Tryz.ntmps159
   go_wp2_with fail
   refine ZT (fun w'=>w'.cell? ⟨w.heap.size,1,none⟩=some (.int .i64 0)∧w'.cell? ⟨w.heap.size,2,none⟩=some (.int .i64 0)∧w'.cell? ⟨w.heap.size,3,none⟩=some (.int .i64 (((ep:Nat):Int)+1))∧w'.cell? ⟨w.heap.size,4,none⟩=some (.slice A 0 m)∧w'.cell? ⟨i,2,none⟩=some (.int .i64 ep)) 16 [[0,1,2,3,4,5,6,7,8,9,10,11,12,13,14,15]] ⟨o1,o2,o3,o4,c2⟩ ?_;simp only[PI]
   iterate 16 (refine ZH ?_;simp only[Act.put,PU])
   refine YB ?_
   go_wp2_with fail
   go_ret;exact⟨rfl,hkA.drew⟩
end
section
open Go.RowKit
structure OpIs (B:Nat) (ops:Nat→POp) (j k b c e:Nat) (xs:List UInt8):Prop where
 op:ops j=⟨k,b,c,e,xs⟩
 may:OpMay k b c e xs.length
 ok:b+max c 1≤B∨k=3
 for_:Xe B ⟨k,b,c,e,xs⟩
theorem OpIs.dev {B len j k b c e:Nat} {ops:Nat→POp} {xs:List UInt8} (h:OpIs B ops j k b c e xs) (hops:JBI B ops len) (hj:j<len):XAH (idl B ops j) k b c e xs.length:=by
 have hl:=(JAO B ops j).1;have he:=(hops j hj).2;rw[h.op] at he;simp only at he;unfold XAH;rw[hl];have ho:=h.ok;rcases h.may with⟨h1,h2,h3,h4,h5⟩ | ⟨h1,h2,h3,h4,h5,h6⟩ | ⟨h1,h2,h3,h4,h5,h6⟩
 · exact .inl ⟨h1,by omega,h3,h4,h5⟩
 · exact .inr (.inl ⟨h1,h3,by omega,h5,h6⟩)
 · have:=he (by omega)
   exact .inr (.inr ⟨h1,h2,h3,by omega,h6⟩)
end
section
open Go.RowKit Go.Shelf
theorem elem8M:ElemN Tryz.prog 39 5 (.int .u8 0) 1 1:=ElemN.of Tryz.underlying39 (by kernel_rfl) rfl (by omega)
def XBF (w:World) (base i:Nat) (F:List Nat) (I:PIdl) (e:Ending) (w':World):Prop:=e=.returned (.bool true)∧∃ F',JAs w' base i F' I∧Keep F w w'∧∀ x∈F',x∈F∨w.heap.size≤x
theorem KAY (w:World) (base i:Nat) (F:List Nat) (I:PIdl) (h:JAs w base i F I) (hB:1≤I.base.length∧I.base.length≤64) (hlen:I.base.length=I.over.length) (hep:I.ep≤1000000) (hsq:I.seq≤1000000) (k b c e n m:Nat) (A:Option Addr) (xs:List UInt8) (ha:Rd w A n (bys xs)) (hm:n≤m) (hf:XAH I k b c e n) :
 Calls Tryz.prog 88 #[.pointer (some ⟨i,0,none⟩),.agg #[.int .i64 k,.int .i64 b,.int .i64 c,.int .i64 e,.slice A n m]] w (XBF w base i F (I.step ⟨k,b,c,e,xs⟩)):=by
 obtain⟨bv,ov,bs,os,h⟩:=h;have hbl:=h.blen;have hol:=h.olen;obtain⟨gb,cb,rfl,_,_⟩:=JE h.brow (by omega);obtain⟨go,co,rfl,_,_⟩:=JE h.orow (by omega);have hkA:Keep [] w (w.alloc (.cells #[.int .i64 k,.int .i64 b,.int .i64 c,.int .i64 e,.slice A n m] 137)):=(Keep.refl _ _).alloc _;have hbO:=Blk.new w 137 #[.int .i64 k,.int .i64 b,.int .i64 c,.int .i64 e,.slice A n m];have hMay:=fun W (hk:Keep [] w W)=>VAF W base i _ _ bs os F I (h.keep0 hk) hB hep k b c e n m A hf;have hxl:xs.length=n:=by simpa using ha.1
 have hib:i≠gb:=fun e=>h.iB (by simp[Value.ownBlock,e]);have hio:i≠go:=fun e=>h.iO (by simp[Value.ownBlock,e]);have hbo:gb≠go:=fun e=>h.ne (by simp[Value.ownBlock,e]);have hge:=fun x hx=>(h.lt x hx);have hbw:base≤w.heap.size:=by have:=h.base;have:=h.blk.lt;omega
 have hiF:=h.inI;have hgbF:gb∈F:=h.inB gb (by simp[Value.ownBlock]);have hgoF:go∈F:=h.inO go (by simp[Value.ownBlock]);obtain⟨o0,o1,o2,o3,o4⟩:=JF hbO;have HXL:=JB hxl;have HBL:=JB hbl;have HOL:=JB hol;clear hxl hbl hol;rcases hf with⟨rfl,h1,rfl,rfl,rfl⟩ | ⟨rfl,h1,h2,rfl,rfl⟩ | ⟨rfl,rfl,rfl,rfl,rfl⟩
 · go_enter Tryz.func88,Tryz.ntmps88
   go_wp2_with (
    (refine(hMay _ hkA).mono ?_)
    clear hMay o0 o1 o2 o3 o4;rintro e w1 ⟨rfl,hk1⟩;have hbO1:=hbO.keep0 hk1;have hkw:=hkA.trans0 hk1;have h1':=h.keep0 hkw;obtain⟨c0,c1,c2,c3,c4⟩:=h1'.cells;obtain⟨o0,o1,o2,o3,o4⟩:=JF hbO1)
   have hPa:=YAS A 64 m xs 0 64 w1.drew ((ha.keep hkw).drew) (by omega) (by omega) (by omega) hm (by omega);refine ZT (fun w'=>w'.cell? ⟨i,1,none⟩=some (.slice (some ⟨go,0,none⟩) os.length co)∧w'.cell? ⟨w.heap.size,1,none⟩=some (.int .i64 b)∧w'.cell? ⟨w.heap.size,4,none⟩=some (.slice A 64 m)) 9 [[0,1,2,3,4,5,6,7],[8]] ⟨c1,o1,o4⟩ ?_;simp only[PI]
   iterate 8 (refine ZH ?_;simp only[Act.put,PU])
   refine XB (by rfl) (fun K hK=>?_)
   go_wp2_with (refine hPa.mono ?_;clear hPa;rintro e w2 ⟨u,rfl,hu,hk2⟩)
   have hkw2:=hkw.drew.trans0 hk2;obtain⟨d1,d2,d3,d4,d5⟩:=(h.keep0 hkw2).cells;obtain⟨p0,p1,p2,p3,p4⟩:=JF (hbO1.keep0 ((Keep.refl [] w1).drew.trans0 hk2));have hbo1:b<os.length:=by rw[XA HOL];omega
   obtain⟨UA,uc,rfl,_⟩:=ZB hu;have hce:w2.cell? ⟨go,b,none⟩=some (os[b]).1:=JH (h.keep0 hkw2).orow (by rw[List.getElem?_map,List.getElem?_eq_getElem hbo1];rfl);refine hK _ _ (⟨d2,p1,p4⟩) ?_;clear hK K
   try simp only[Act.put,PU]
   have hgw1:go≠w.heap.size:=fun e=>by have:=hge go hgoF;omega
   have hgw2:w.heap.size≠go:=fun e=>hgw1 e.symm;have hoi:go≠i:=fun e=>hio e.symm;have fz1:=YG (h.keep0 hkw2).orow b;have fz2:=(h.keep0 hkw2).blk.frozen 3;have hwq:IntKind.i64.wrap (((I.seq:Nat):Int)+1)=((I.seq:Nat):Int)+1:=by rw[IntKind.wrap_i64];omega
   refine YB ?_
   go_wp2_with fail
   go_ret
   have hov:ORow w2 base (.slice UA 64 uc) (some xs):=.inr ⟨xs,rfl,by simpa using XA HXL,by
    have:=ZC hu (Nat.le_trans hbw (hkw.drew).size);simpa [List.take_of_length_le (Nat.le_of_eq (XA HXL))] using this⟩
   obtain⟨F2,h2,hk3,hF2⟩:=h.setO hkw2 (k:=b) hov;have hb3:=h2.blk.set 3 (.int .i64 ((I.seq+1:Nat):Int));have hk4:Keep [i] (w2.setCell ⟨go,b,none⟩ (.slice UA 64 uc)) ((w2.setCell ⟨go,b,none⟩ (.slice UA 64 uc)).setCell ⟨i,3,none⟩ (.int .i64 ((I.seq+1:Nat):Int))):=(Keep.refl [i] _).setCell (p:=⟨i,3,none⟩) (.inl (by simp)) _;have h3:=h2.setN I.ep (I.seq+1) I.done (by simpa using hb3) hk4;refine⟨rfl,F2,⟨_,_,_,_,by simpa [PIdl.step] using h3⟩,((((Keep.refl F w).trans0 hkw2).trans hk3 (fun y hy=>.inl (by simp at hy;subst hy;exact hgoF))).trans hk4 (fun y hy=>.inl (by simp at hy;subst hy;exact hiF))),fun x hx=>?_⟩;rcases hF2 x hx with hx | hx
   · exact .inl hx
   · exact .inr (Nat.le_trans (hkw.drew).size (JAE hu x hx))
 · have hgw1:go≠w.heap.size:=fun e=>by have:=hge go hgoF;omega
   have hgw2:w.heap.size≠go:=fun e=>hgw1 e.symm;have hoi:go≠i:=fun e=>hio e.symm;have hiw:i≠w.heap.size:=fun e=>by have:=hge i hiF;omega
   have hwi:w.heap.size≠i:=fun e=>hiw e.symm;have hc64:c≤64:=by omega
   have hwq:IntKind.i64.wrap (((I.seq:Nat):Int)+1)=((I.seq:Nat):Int)+1:=by rw[IntKind.wrap_i64];omega
   go_enter Tryz.func88,Tryz.ntmps88
   go_wp2_with (
    (refine(hMay _ hkA).mono ?_)
    clear hMay o0 o1 o2 o3 o4;rintro e w1 ⟨rfl,hk1⟩;have hbO1:=hbO.keep0 hk1;have hkw:=hkA.trans0 hk1;obtain⟨o0,o1,o2,o3,o4⟩:=JF hbO1)
   go_loopw [5] (fun iv wr=>∃ (q:Nat) (os':List (Value×Option (List UInt8))) (F':List Nat),q≤c∧iv=.int .i64 (q:Nat)∧IdlIs wr base i (.slice (some ⟨gb,0,none⟩) bs.length cb) (.slice (some ⟨go,0,none⟩) os.length co) bs os' F' { I with over:=JV I.over b q (some zeros64) }∧Keep F w wr∧Blk wr w.heap.size 137 #[.int .i64 2,.int .i64 b,.int .i64 c,.int .i64 0,.slice A 0 m]∧(∀ x∈F',x∈F∨w.heap.size≤x)) (fun iv _=>c-(intOf iv).toNat)
   case atStart=>exact⟨0,os,F,Nat.zero_le _,rfl,by rw[XAu];exact h.keep0 hkw,(Keep.refl F w).trans0 hkw,hbO1,fun x hx=>.inl hx⟩
   case round=>
    clear o0 o1 o2 o3 o4 hbO1 hkw;obtain⟨q,os',F',hq,rfl,hI,hkr,hbr,hF⟩:=hrel;obtain⟨c0,c1,c2,c3,c4⟩:=hI.cells;obtain⟨o0,o1,o2,o3,o4⟩:=JF hbr
    by_cases hlt:q<c
    · have hbq:b+q<os'.length:=by
       have:=hI.olen;simp only[ZV] at this;have:=XA HOL;omega
      go_wp2_with fail
      refine ZT (fun w'=>w'.cell? ⟨i,1,none⟩=some (.slice (some ⟨go,0,none⟩) os.length co)∧w'.cell? ⟨w.heap.size,1,none⟩=some (.int .i64 b)) 9 [[0,1,2,3,4,5,6,7],[8]] ⟨c1,o1⟩ ?_;simp only[PI]
      iterate 8 (refine ZH ?_;simp only[Act.put,PU])
      refine XB (by rfl) (fun K hK=>?_);refine elem8M.wp1_make _ _ rfl .i64 .i64 64 rfl rfl (by omega) (by omega) ?_;intro w2 g2 hg2 hs2 hb2 hk2;have hkn:Keep [] wr w2:=(Keep.refl [] wr).drew.trans0 hk2;obtain⟨d1,d2,d3,d4,d5⟩:=(hI.keep0 hkn).cells;obtain⟨p0,p1,p2,p3,p4⟩:=JF (hbr.keep0 hkn);have hol:os.length=os'.length:=by obtain⟨_,_,e,_⟩:=ZB hI.orow;injection e
      have hrow:=(hI.keep0 hkn).orow;rw[hol] at hrow;have hce:w2.cell? ⟨go,b+q,none⟩=some (os'[b+q]).1:=JH hrow (by rw[List.getElem?_map,List.getElem?_eq_getElem hbq];rfl);have fz1:=YG hrow (b+q);clear hrow;have hbqo:b+q<os.length:=by omega
      have hwb:IntKind.i64.wrap (((b:Nat):Int)+(q:Nat))=((b:Nat):Int)+(q:Nat):=by rw[IntKind.wrap_i64];omega
      have hwq2:IntKind.i64.wrap (((q:Nat):Int)+1)=((q:Nat):Int)+1:=by rw[IntKind.wrap_i64];omega
      have hnn:(((b:Nat):Int)+(q:Nat)).toNat=b+q:=by omega
      have hz:=YN (e:=5) (s:=1) (z:=.int .u8 0) (n:=64) (m:=64) (xs:=bys zeros64) (base:=base) hb2 (by omega) (by rw[hg2];exact Nat.le_trans hbw (by simpa using hkr.size)) (by omega) (by simp[bys,by8,zeros64]) rfl;refine hK _ _ (⟨d2,p1⟩) ?_;clear hK K
      try simp only[Act.put,PU]
      refine YB ?_
      go_wp2_with fail
      go_roundw
      case rel=>
       have hov:ORow w2 base (.slice (some ⟨wr.heap.size,0,none⟩) 64 64) (some zeros64):=.inr ⟨zeros64,rfl,by simp[zeros64],by simpa [hg2] using hz⟩;obtain⟨F2,h2,hk3,hF2⟩:=hI.setO hkn (k:=b+q) hov;refine⟨q+1,os'.set (b+q) (.slice (some ⟨wr.heap.size,0,none⟩) 64 64,some zeros64),F2,by omega,by go_num,?_,(hkr.trans0 hkn).trans hk3 (fun y hy=>.inl (by simp at hy;subst hy;exact hgoF)),(hbr.keep0 hkn).keep hk3 (by simp;omega),fun x hx=>?_⟩
       · rw[XAw _ _ _ _ (by have:=XA HOL;omega)]
         exact h2
       · rcases hF2 x hx with hx | hx
         · exact hF x hx
         · simp[Value.ownBlock] at hx
           subst hx;exact .inr hkr.size
      case measure=>simp[intOf];omega
    · obtain rfl:q=c:=by omega
      have fz2:=hI.blk.frozen 3
      go_wp2_with fail
      go_ret;have hb3:=hI.blk.set 3 (.int .i64 ((I.seq+1:Nat):Int));have hk4:Keep [i] wr (wr.setCell ⟨i,3,none⟩ (.int .i64 ((I.seq+1:Nat):Int))):=(Keep.refl [i] _).setCell (p:=⟨i,3,none⟩) (.inl (by simp)) _;have h3:=hI.setN I.ep (I.seq+1) I.done (by simpa using hb3) hk4;exact⟨rfl,F',⟨_,_,_,_,by simpa [PIdl.step] using h3⟩,hkr.trans hk4 (fun y hy=>.inl (by simp at hy;subst hy;exact hiF)),hF⟩
 · have hgw1:go≠w.heap.size:=fun e=>by have:=hge go hgoF;omega
   have hgw2:w.heap.size≠go:=fun e=>hgw1 e.symm;have hgv1:gb≠w.heap.size:=fun e=>by have:=hge gb hgbF;omega
   have hgv2:w.heap.size≠gb:=fun e=>hgv1 e.symm;have hoi:go≠i:=fun e=>hio e.symm;have hbi:gb≠i:=fun e=>hib e.symm;have hob:go≠gb:=fun e=>hbo e.symm;have hiw:i≠w.heap.size:=fun e=>by have:=hge i hiF;omega
   have hwi:w.heap.size≠i:=fun e=>hiw e.symm;have hwq:IntKind.i64.wrap (((I.seq:Nat):Int)+1)=((I.seq:Nat):Int)+1:=by rw[IntKind.wrap_i64];omega
   obtain⟨L,hL⟩:∃ L,L=bs.length:=⟨_,rfl⟩;have hLB:L=I.base.length:=by rw[hL];exact XA HBL
   have hLO:os.length=L:=by rw[hLB,hlen];exact XA HOL
   have HL:=JB hL;have HLB:=JB hLB;rw[hLO,← hL] at h;clear hL hLO hLB;have hL64:L≤64:=by have:=XA HLB;omega
   go_enter Tryz.func88,Tryz.ntmps88
   go_wp2_with (
    (refine(hMay _ hkA).mono ?_)
    clear hMay o0 o1 o2 o3 o4;rintro e w1 ⟨rfl,hk1⟩;have hbO1:=hbO.keep0 hk1;have hkw:=hkA.trans0 hk1;obtain⟨o0,o1,o2,o3,o4⟩:=JF hbO1)
   go_loopw [6] (fun iv wr=>∃ (q:Nat) (bs':List (Value×List UInt8)) (os':List (Value×Option (List UInt8))) (F':List Nat),q≤L∧iv=.int .i64 (q:Nat)∧IdlIs wr base i (.slice (some ⟨gb,0,none⟩) L cb) (.slice (some ⟨go,0,none⟩) L co) bs' os' F' { I with base:=Xm I.base I.over q,over:=JX I.over q }∧Keep F w wr∧Blk wr w.heap.size 137 #[.int .i64 3,.int .i64 0,.int .i64 0,.int .i64 ((I.ep+1:Nat):Int),.slice A 0 m]∧(∀ x∈F',x∈F∨w.heap.size≤x)) (fun iv _=>L-(intOf iv).toNat)
   case atStart=>exact⟨0,bs,os,F,Nat.zero_le _,rfl,by simpa [Xm,JX] using h.keep0 hkw,(Keep.refl F w).trans0 hkw,hbO1,fun x hx=>.inl hx⟩
   case round=>
    clear o0 o1 o2 o3 o4 hbO1 hkw;obtain⟨q,bs',os',F',hq,rfl,hI,hkr,hbr,hF⟩:=hrel;obtain⟨c0,c1,c2,c3,c4⟩:=hI.cells;obtain⟨o0,o1,o2,o3,o4⟩:=JF hbr
    by_cases hlt:q<L
    · have hol:L=os'.length:=by obtain⟨_,_,e,_⟩:=ZB hI.orow;injection e
      have hbl:L=bs'.length:=by obtain⟨_,_,e,_⟩:=ZB hI.brow;injection e
      have hq1:q<os'.length:=by omega
      have hbo2:I.base.length=I.over.length:=hlen;have hqo:q<I.over.length:=by have:=XA HLB;omega
      have hget:(JX I.over q)[q]? = some os'[q].2:=hI.oget hq1;have hov:=hI.odat _ (List.getElem_mem hq1);have hover:I.over[q]? = some os'[q].2:=by rw[← hget,ZX];simp
      have hrow:=hI.orow;rw[hol] at hrow;have hco:wr.cell? ⟨go,q,none⟩=some os'[q].1:=JH hrow (by rw[List.getElem?_map,List.getElem?_eq_getElem hq1];rfl);clear hrow;rcases hov with⟨hn,hv⟩ | ⟨ys,hs,hl,hown⟩
      · rw[hv] at hco
        rw[hn] at hover;obtain⟨e1,e2⟩:=VAx hbo2 hqo hover;have E1:=JB e1;have E2:=JB e2;clear e1 e2 hget hn hv hover hol hbl
        go_wp2_with fail
        go_roundw
        case rel=>exact⟨q+1,bs',os',F',by omega,by go_num,by rw[XA E1,XA E2];exact hI,hkr,hbr,hF⟩
        case measure=>simp[intOf];omega
      · obtain⟨g,cg,hv,_,_⟩:=JE hown (by omega)
        have hgF:g∈F':=hI.inOs (List.getElem_mem hq1) g (by rw[hv];simp[Value.ownBlock]);rw[hv] at hco hown;rw[hs] at hover;obtain⟨e1,e2⟩:=YAu hbo2 hqo hover;have hrowb:=hI.brow;rw[hbl] at hrowb;have hqb:q<bs'.length:=by omega
        obtain⟨bq,hcb⟩:∃ u,wr.cell? ⟨gb,q,none⟩=some u:=⟨_,JH hrowb (by rw[List.getElem?_map,List.getElem?_eq_getElem hqb];rfl)⟩;have fzb:=YG hrowb q;have fzo:=YG (by have:=hI.orow;rwa [hol] at this) q;have E1:=JB e1;have E2:=JB e2;clear e1 e2 hget hs hv hover hol hbl hrowb
        go_wp2_with fail
        refine ZT (fun w'=>w'.cell? ⟨i,0,none⟩=some (.slice (some ⟨gb,0,none⟩) L cb)∧w'.cell? ⟨i,1,none⟩=some (.slice (some ⟨go,0,none⟩) L co)∧w'.cell? ⟨go,q,none⟩=some (.slice (some ⟨g,0,none⟩) 64 cg)) 12 [[0,1,2,3,4,5,6,7,8,9,10,11]] ⟨c0,c1,hco⟩ ?_;simp only[PI]
        iterate 12 (refine ZH ?_;simp only[Act.put,PU])
        refine YB ?_
        go_wp2_with fail
        go_roundw
        case rel=>
         obtain⟨F1,hA,hkA',hFA⟩:=hI.setB (Keep.refl [] wr) (k:=q) (.inr ⟨ys,rfl,hl,hown⟩);obtain⟨F2,hB',hkB',hFB⟩:=hA.setO (Keep.refl [] _) (k:=q) (v:=.slice none 0 0) (o:=none) (.inl ⟨rfl,rfl⟩);refine⟨q+1,bs'.set q (.slice (some ⟨g,0,none⟩) 64 cg,ys),os'.set q (.slice none 0 0,none),F2,by omega,by go_num,?_,?_,?_,fun x hx=>?_⟩
         · rw[XA E1,XA E2]
           exact hB'.keep0 (Keep.refl [] _).drew
         · exact((hkr.trans hkA' (fun y hy=>.inl (by simp at hy;subst hy;exact hgbF))).trans hkB' (fun y hy=>.inl (by simp at hy;subst hy;exact hgoF))).drew
         · exact((hbr.keep hkA' (by simp[hgv2])).keep hkB' (by simp[hgw2])).keep0 (Keep.refl [] _).drew
         · rcases hFB x hx with hx | hx
           · rcases hFA x hx with hx | hx
             · exact hF x hx
             · simp[Value.ownBlock] at hx
               subst hx;exact hF _ hgF
           · simp[Value.ownBlock] at hx
        case measure=>simp[intOf];omega
    · obtain rfl:q=L:=by omega
      have fz2:=hI.blk.frozen 2;have fz3:=hI.blk.frozen 3;have fz4:=hI.blk.frozen 4
      go_wp2_with fail
      go_ret;have hb3:=((hI.blk.set 2 (.int .i64 ((I.ep+1:Nat):Int))).set 3 (.int .i64 ((I.seq+1:Nat):Int))).set 4 (.int .i64 ((I.seq+1:Nat):Int));have hk4:=(((Keep.refl [i] wr).setCell (p:=⟨i,2,none⟩) (.inl (by simp)) (.int .i64 ((I.ep+1:Nat):Int))).setCell (p:=⟨i,3,none⟩) (.inl (by simp)) (.int .i64 ((I.seq+1:Nat):Int))).setCell (p:=⟨i,4,none⟩) (.inl (by simp)) (.int .i64 ((I.seq+1:Nat):Int));obtain⟨e1,e2⟩:=XBG hlen;have h3:=hI.setN (I.ep+1) (I.seq+1) (I.seq+1) (by simpa using hb3) hk4;have eq:q=I.over.length:=by have:=XA HLB;omega
      rw[eq] at h3;simp only[e1,e2] at h3;exact⟨rfl,F',⟨_,_,_,_,by simpa [PIdl.step] using h3⟩,hkr.trans hk4 (fun y hy=>.inl (by simp at hy;subst hy;exact hiF)),hF⟩
end
end Go.Proofs.YtkonbpfbjiepfaaGreat
