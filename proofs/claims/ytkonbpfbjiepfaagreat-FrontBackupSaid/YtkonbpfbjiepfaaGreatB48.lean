/-
  A part of the proof: lemmas, and contracts of functions; their conditions stand in them.
-/
import Derived.Test.YtkonbpfbjiepfaaGreatB45
import Derived.Test.YtkonbpfbjiepfaaGreatB47
import Derived.Test.YtkonbpfbjiepfaaGreatB40
namespace Go.Proofs.YtkonbpfbjiepfaaGreat
set_option linter.unusedSimpArgs false
set_option linter.unusedVariables false
section
open Go.RowKit Go.Shelf
section
variable (w:World) (base s d g t p m:Nat) (Fd Ft Fw Fm:List Nat) (L0 L1:Value) (B:Nat) (S:PS) (h:StoreIs w base s d g t p m Fd Ft Fw Fm L0 L1 B S)
include h
theorem ZAG (hm:S.st.mode=2) (v:Int):Calls Tryz.prog 86 #[.pointer (some ⟨s,0,none⟩),.int .i64 v,.int .i64 2] w fun e w'=>e = .returned (.int .i64 7)∧w=w':=by
 obtain ⟨c0,c1,c2,c3,c4,c5,c6,c7,c8,c9,c10,c11,c12,c13,c14,c15,c16,c17⟩:=QD h.blk
 rw [hm] at c5
 go_enter Tryz.func86,Tryz.ntmps86
 go_wp2_with fail
 go_ret
 exact ⟨rfl,rfl⟩
theorem KAK (hm:S.st.mode=1) (v:Int) (h1:1≤v) (h2:v≤2147483647) (h3:v≤(S.st.view:Nat)):Calls Tryz.prog 86 #[.pointer (some ⟨s,0,none⟩),.int .i64 v,.int .i64 2] w fun e w'=>e = .returned (.int .i64 8)∧w=w':=by
 obtain ⟨c0,c1,c2,c3,c4,c5,c6,c7,c8,c9,c10,c11,c12,c13,c14,c15,c16,c17⟩:=QD h.blk
 rw [hm] at c5
 have q1:¬ v<1:=by omega
 have q2:¬ 2147483647<v:=by omega
 go_enter Tryz.func86,Tryz.ntmps86
 go_wp2_with fail
 go_ret
 exact ⟨rfl,rfl⟩
end
structure FrP (w0 w:World) (B f r s d x:Nat) (Fs:List Nat) (S:PS):Prop where
 blk:Blk w f 218 #[.pointer (some ⟨r,0,none⟩)]
 rblk:Blk w r 224 #[.pointer (some ⟨s,0,none⟩),.pointer (some ⟨x,0,none⟩)]
 st:StoreAt w w0.heap.size s d Fs B S
 fs:f∉Fs
 rs:r∉Fs
 kept:Keep [] w0 w
 mode:S.st.mode=2
namespace FrP
variable {w0 w w':World} {B f r s d x:Nat} {Fs:List Nat} {S:PS}
theorem keep0 (h:FrP w0 w B f r s d x Fs S) (hk:Keep [] w w'):FrP w0 w' B f r s d x Fs S:=⟨h.blk.keep0 hk,h.rblk.keep0 hk,h.st.keep0 hk,h.fs,h.rs,h.kept.trans0 hk,h.mode⟩
theorem turn (h:FrP w0 w B f r s d x Fs S) {Fs':List Nat} {S':PS} (hs:StoreAt w' w0.heap.size s d Fs' B S') (hk:Keep Fs w w') (hg:Grow w Fs Fs') (hm:S'.st.mode=2):FrP w0 w' B f r s d x Fs' S':=by
 have h1:=h.blk.lt
 have h2:=h.rblk.lt
 have hge:=h.st.ge
 exact ⟨h.blk.keep hk h.fs,h.rblk.keep hk h.rs,hs,fun q=>(hg f q).elim h.fs (by omega),fun q=>(hg r q).elim h.rs (by omega),h.kept.trans hk (fun y hy => .inr (hge y hy)),hm⟩
theorem promote_no (h:FrP w0 w B f r s d x Fs S) (v:Int):Calls Tryz.prog 28 #[.pointer (some ⟨f,0,none⟩),.int .i64 v] w fun e w'=>e = .returned (.int .i64 7)∧w=w':=by
 obtain ⟨g,t,p,m,Fd,Ft,Fw,Fm,L0,L1,hs,_⟩:=h.st
 refine Yc h.blk h.rblk ((ZAG w _ s d g t p m Fd Ft Fw Fm L0 L1 B S hs h.mode v).mono ?_)
 rintro e w' ⟨rfl,hk⟩
 exact ⟨7,rfl,rfl,hk⟩
theorem read (h:FrP w0 w B f r s d x Fs S) (k j:Nat) (hg:Good B S k j) (b:Nat) (hb:b<B) :
 Calls Tryz.prog 33 #[.pointer (some ⟨f,0,none⟩),.int .i64 (b:Nat)] w fun e w'=>∃ UA uc,e = .returned (.tuple #[.slice UA 64 uc,.int .i64 0])∧w'.ownsRow w.heap.size 5 1 (.slice UA 64 uc) 64 (bys ((VJ B S).getD b []))∧Keep [] w w':=by
 have hS:=fun W (hk:Keep [] w W)=>KO W f r s x (h.blk.keep0 hk) (h.rblk.keep0 hk)
 have hT:=XL w _ s d Fs B S h.st
 have hR:=fun W (hk:Keep [] w W)=>YAr W _ s d Fs B S (h.st.keep0 hk) k j hg b hb
 have hmo:=h.mode
 rw [hmo] at hT
 have hfd:=fun (a0 a1 a2 a3 a4 a5 a6 a7 a8 a9:Value) W=>JE (P:=Tryz.prog) Tryz.underlying72 0 rfl Tryz.isAgg3 #[a0,a1,a2,a3,a4,a5,a6,a7,a8,a9] rfl W
 go_enter Tryz.func33,Tryz.ntmps33
 have hS1:=hS w (Keep.refl _ _)
 go_wp2_with (first
  | (go_at_call 79;refine hS1.mono ?_;clear hS1;rintro e w' ⟨rfl,rfl⟩)
  | (go_at_call 85;refine hT.mono ?_;clear hT;rintro e w1 ⟨rfl,hk1⟩;have hS1:=hS _ hk1;have hR1:=hR _ hk1)
  | (go_at_call 89;refine hR1.mono ?_;clear hR1;rintro e w2 ⟨UA,uc,rfl,hu,hk2⟩))
 go_ret2
 exact ⟨UA,uc,rfl,YC hu hk1.size,hk1.trans0 hk2⟩
theorem write (h:FrP w0 w B f r s d x Fs S) (k j:Nat) (hg:Good B S k j) (hk:k≤50) (hj:j≤20000) (b:Nat) (hb:b<B) (A:Option Addr) (c:Nat) (bs:List UInt8) (hr:Rd w A 64 (bys bs)) (hA:∀ x,A=some x→x.block∉Fs) :
 Calls Tryz.prog 34 #[.pointer (some ⟨f,0,none⟩),.int .i64 (b:Nat),.slice A 64 c] w fun e w'=>e = .returned (.int .i64 0)∧∃ F' S',FrP w0 w' B f r s d x F' S'∧PutDone B S b bs S'∧Good B S' (k+1) (j+1)∧Keep Fs w w'∧Grow w Fs F':=by
 have hS:=KO w f r s x h.blk h.rblk
 have hP:=XBG w _ s d Fs B S h.st k j hg hk hj h.mode b hb A c bs hr hA
 have hbl:bs.length=64:=by simpa using hr.1
 go_enter Tryz.func34,Tryz.ntmps34
 go_wp2_with (first
  | (go_at_call 79;refine hS.mono ?_;clear hS;rintro e w' ⟨rfl,rfl⟩)
  | (go_at_call 90;refine hP.mono ?_;clear hP;rintro e w1 ⟨rfl,F',S',h1,h2,h3,h4⟩))
 go_ret
 obtain ⟨g1,g2,g3⟩:=h2.good hg hk hb hbl
 exact ⟨rfl,F',S',h.turn h1 h3 h4 (by rw [g3];exact h.mode),h2,g1,h3,h4⟩
end FrP
theorem FrSt.promote {w0 w:World} {B f r s d x:Nat} {Fs Fx:List Nat} {R:RS} (h:FrSt w0 w B f r s d x Fs Fx R) (k j:Nat) (hg:Good B R.S k j) (hx:Ext B R.S) (hj:j≤20000) (hgen:R.S.st.gen≤100000) (v:Nat) (hv:R.S.st.view<v) (hv2:v≤2147483647) :
 Calls Tryz.prog 28 #[.pointer (some ⟨f,0,none⟩),.int .i64 (v:Nat)] w fun e w'=>e = .returned (.int .i64 0)∧∃ F' S',FrP w0 w' B f r s d x F' S'∧Raised B R.S v 2 S'∧Keep Fs w w'∧Grow w Fs F':=by
 have hRa:=JAm w _ s d Fs B R.S h.rep.st k j hg hx hj h.rep.mode hgen v 2 hv hv2 (.inr rfl)
 refine Yc h.blk h.rep.blk (hRa.mono ?_)
 rintro e w' ⟨rfl,F',S',h1,h2,h3,h4⟩
 have hf1:=h.blk.lt
 have hr1:=h.rep.blk.lt
 have hge:=h.rep.st.ge
 have hfs:f∉Fs:=fun q=>h.fn (by simp [YP,q])
 exact ⟨0,rfl,rfl,F',S',⟨h.blk.keep h3 hfs,h.rep.blk.keep h3 h.rep.rs,h1,fun q=>(h4 f q).elim hfs (by omega),fun q=>(h4 r q).elim h.rep.rs (by omega),h.kept.trans h3 (fun y hy => .inr (hge y hy)),by rw [(h2.good hg hx (by omega)).2.2.2.2.1]⟩,h2,h3,h4⟩
theorem FrSt.promote_view {w0 w:World} {B f r s d x:Nat} {Fs Fx:List Nat} {R:RS} (h:FrSt w0 w B f r s d x Fs Fx R) (v:Int) (h1:1≤v) (h2:v≤2147483647) (h3:v≤(R.S.st.view:Nat)):Calls Tryz.prog 28 #[.pointer (some ⟨f,0,none⟩),.int .i64 v] w fun e w'=>e = .returned (.int .i64 8)∧w=w':=by
 obtain ⟨g,t,p,m,Fd,Ft,Fw,Fm,L0,L1,hs,_⟩:=h.rep.st
 refine Yc h.blk h.rep.blk ((KAK w _ s d g t p m Fd Ft Fw Fm L0 L1 B _ hs h.rep.mode v h1 h2 h3).mono ?_)
 rintro e w' ⟨rfl,hk⟩
 exact ⟨8,rfl,rfl,hk⟩
theorem QAR (w:World):Calls Tryz.prog 139 #[.pointer none] w fun e w'=>e = .returned (.pointer none)∧w=w':=by
 go_enter Tryz.func139,Tryz.ntmps139
 go_wp2
 go_ret
 exact ⟨rfl,rfl⟩
theorem Kv (w:World):Calls Tryz.prog 79 #[.pointer none] w fun e w'=>e = .returned (.pointer none)∧w=w':=by
 have hE:=YAv w
 have hS:=QAR w
 go_enter Tryz.func79,Tryz.ntmps79
 go_wp2_with (first
  | (go_at_call 82;refine hE.mono ?_;clear hE;rintro e w' ⟨rfl,rfl⟩)
  | (go_at_call 139;refine hS.mono ?_;clear hS;rintro e w' ⟨rfl,rfl⟩))
 go_ret
 exact ⟨rfl,rfl⟩
theorem YAY (w:World) (m:Int) (b:Bool):Calls Tryz.prog 51 #[.pointer none,.int .i64 m,.bool b] w fun e w'=>e = .returned (.int .i64 3)∧w=w':=by
 go_enter Tryz.func51,Tryz.ntmps51
 go_wp2
 go_ret
 exact ⟨rfl,rfl⟩
theorem QAZ (w:World):Calls Tryz.prog 92 #[.pointer none] w fun e w'=>e = .returned (.int .i64 3)∧w=w':=by
 have hA:=YAY w 2 true
 go_enter Tryz.func92,Tryz.ntmps92
 go_wp2_with (refine hA.mono ?_;rintro e w' ⟨rfl,rfl⟩)
 go_ret
 exact ⟨rfl,rfl⟩
theorem VAT (w:World):Calls Tryz.prog 36 #[.pointer none] w fun e w'=>e = .returned (.int .i64 3)∧w=w':=by
 have hS:=Kv w
 have hP:=QAZ w
 go_enter Tryz.func36,Tryz.ntmps36
 go_wp2_with (first
  | (go_at_call 79;refine hS.mono ?_;clear hS;rintro e w' ⟨rfl,rfl⟩)
  | (go_at_call 92;refine hP.mono ?_;clear hP;rintro e w' ⟨rfl,rfl⟩))
 go_ret
 exact ⟨rfl,rfl⟩
theorem ZAu (w:World):Calls Tryz.prog 77 #[.pointer none,.int .i64 17] w fun e w'=>e = .returned (.tuple #[.pointer none,.int .i64 1])∧w=w':=by
 go_enter Tryz.func77,Tryz.ntmps77
 go_wp2
 go_ret2
 exact ⟨rfl,rfl⟩
end
end Go.Proofs.YtkonbpfbjiepfaaGreat
