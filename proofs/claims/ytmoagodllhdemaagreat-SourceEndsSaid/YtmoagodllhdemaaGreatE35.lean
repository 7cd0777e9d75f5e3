/-
  A part of the proof: lemmas, and contracts of functions; their conditions stand in them.
-/
import Derived.Test.YtmoagodllhdemaaGreatE34
import Derived.Test.YtmoagodllhdemaaGreatE08
namespace Go.Proofs.YtmoagodllhdemaaGreat
set_option linter.unusedSimpArgs false
set_option linter.unusedVariables false
set_option maxHeartbeats 2000000
set_option maxRecDepth 20000
section
open Go.RowKit Go.Shelf
namespace IdlIs
variable {w w1:World} {base i:Nat} {bv ov:Value} {bs:List (Value×List UInt8)} {os:List (Value×Option (List UInt8))} {F:List Nat} {I:PIdl}
theorem row_ne {v:Value} {o:Option (List UInt8)} {u:Value} {n:Nat} {ys:List Value} (hv:ORow w base v o) (hu:w.ownsRow base 40 1 u n ys) {g:Nat} (hg:g∈v.ownBlock.toList):u.ownBlock≠some g:=by
 rcases hv with ⟨_,rfl⟩ | ⟨xs,_,_,h3⟩
 · simp [Value.ownBlock] at hg
 · exact own_ne h3 hu (by decide) (by simpa using hg)
theorem setO {go n co:Nat} (h:IdlIs w base i bv (.slice (some ⟨go,0,none⟩) n co) bs os F I) (hk1:Keep [] w w1) {k:Nat} {v:Value} {o:Option (List UInt8)} (hv:ORow w1 base v o) :
 ∃ F',IdlIs (w1.setCell ⟨go,k,none⟩ v) base i bv (.slice (some ⟨go,0,none⟩) n co) bs (os.set k (v,o)) F' { I with over:=I.over.set k o }∧Keep [go] w1 (w1.setCell ⟨go,k,none⟩ v)∧∀ x∈F',x∈F∨x∈v.ownBlock.toList:=by
 have h1:=h.keep0 hk1
 obtain rfl:n=os.length:=by obtain ⟨_,_,e,_⟩:=JB h1.orow;cases e;rfl
 have hk:Keep [go] w1 (w1.setCell ⟨go,k,none⟩ v):=(Keep.refl [go] w1).setCell (p:=⟨go,k,none⟩) (.inl (by simp)) _
 have hgo:∀ {u:Value} {p:Option (List UInt8)},ORow w1 base u p→∀ g∈u.ownBlock.toList,g∉[go]:=fun hu g hg hm=>by
  simp at hm;subst hm
  exact row_ne hu h1.orow hg (by simp [Value.ownBlock])
 refine ⟨_,⟨h1.blk.keep hk (fun hm=>h1.iO (by simp at hm;simp [Value.ownBlock,hm])),QB h1.brow hk (fun x hx hm=>?_),?_,fun q hq=>(h1.bdat q hq).keep hk (hgo (h1.bdat q hq)),fun q hq=>?_,h1.bsnd,?_,h1.ne,rfl,h1.base⟩,hk,fun x hx=>?_⟩
 · simp at hm;subst hm
   exact h1.ne (by rw [hx];rfl)
 · have:=YR h1.orow k v
   rw [List.length_set,List.map_set]
   exact this
 · rcases List.mem_or_eq_of_mem_set hq with hq | rfl
   · exact (h1.odat q hq).keep hk (hgo (h1.odat q hq))
   · exact hv.keep hk (hgo hv)
 · rw [List.map_set,h1.osnd]
 · simp only [List.mem_cons,List.mem_append,List.mem_flatMap] at hx
   rcases hx with hx | hx | hx | ⟨q,hq,hx⟩ | ⟨q,hq,hx⟩
   · exact .inl (by subst hx;exact h.inI)
   · exact .inl (h.inB x hx)
   · exact .inl (h.inO x hx)
   · exact .inl (h.inBs hq x hx)
   · rcases List.mem_or_eq_of_mem_set hq with hq | rfl
     · exact .inl (h.inOs hq x hx)
     · exact .inr hx
theorem setB {gb n cb:Nat} (h:IdlIs w base i (.slice (some ⟨gb,0,none⟩) n cb) ov bs os F I) (hk1:Keep [] w w1) {k:Nat} {v:Value} {xs:List UInt8} (hv:ORow w1 base v (some xs)) :
 ∃ F',IdlIs (w1.setCell ⟨gb,k,none⟩ v) base i (.slice (some ⟨gb,0,none⟩) n cb) ov (bs.set k (v,xs)) os F' { I with base:=I.base.set k xs }∧Keep [gb] w1 (w1.setCell ⟨gb,k,none⟩ v)∧∀ x∈F',x∈F∨x∈v.ownBlock.toList:=by
 have h1:=h.keep0 hk1
 obtain rfl:n=bs.length:=by obtain ⟨_,_,e,_⟩:=JB h1.brow;cases e;rfl
 have hk:Keep [gb] w1 (w1.setCell ⟨gb,k,none⟩ v):=(Keep.refl [gb] w1).setCell (p:=⟨gb,k,none⟩) (.inl (by simp)) _
 have hgb:∀ {u:Value} {p:Option (List UInt8)},ORow w1 base u p→∀ g∈u.ownBlock.toList,g∉[gb]:=fun hu g hg hm=>by
  simp at hm;subst hm
  exact row_ne hu h1.brow hg (by simp [Value.ownBlock])
 refine ⟨_,⟨h1.blk.keep hk (fun hm=>h1.iB (by simp at hm;simp [Value.ownBlock,hm])),?_,QB h1.orow hk (fun x hx hm=>?_),fun q hq=>?_,fun q hq=>(h1.odat q hq).keep hk (hgb (h1.odat q hq)),?_,h1.osnd,h1.ne,rfl,h1.base⟩,hk,fun x hx=>?_⟩
 · have:=YR h1.brow k v
   rw [List.length_set,List.map_set]
   exact this
 · simp at hm;subst hm
   exact h1.ne (by rw [hx];rfl)
 · rcases List.mem_or_eq_of_mem_set hq with hq | rfl
   · exact (h1.bdat q hq).keep hk (hgb (h1.bdat q hq))
   · exact hv.keep hk (hgb hv)
 · rw [List.map_set,h1.bsnd]
 · simp only [List.mem_cons,List.mem_append,List.mem_flatMap] at hx
   rcases hx with hx | hx | hx | ⟨q,hq,hx⟩ | ⟨q,hq,hx⟩
   · exact .inl (by subst hx;exact h.inI)
   · exact .inl (h.inB x hx)
   · exact .inl (h.inO x hx)
   · rcases List.mem_or_eq_of_mem_set hq with hq | rfl
     · exact .inl (h.inBs hq x hx)
     · exact .inr hx
   · exact .inl (h.inOs hq x hx)
theorem setN (h:IdlIs w base i bv ov bs os F I) (ep seq done:Nat) (hb:Blk w1 i 139 #[bv,ov,.int .i64 ep,.int .i64 seq,.int .i64 done]) (hk:Keep [i] w w1):IdlIs w1 base i bv ov bs os F { I with ep:=ep,seq:=seq,done:=done }:=by
 have hr:∀ {u:Value} {p:Option (List UInt8)},ORow w base u p→ORow w1 base u p:=fun hu=>hu.keep hk (fun g hg hm=>by
  simp at hm;subst hm
  rcases hu with ⟨_,rfl⟩ | ⟨xs,_,_,h3⟩
  · simp [Value.ownBlock] at hg
  · exact own_blk_ne h3 h.blk (by decide) (by simpa using hg))
 exact ⟨hb,QB h.brow hk (fun x hx hm=>h.iB (by simp at hm;subst hm;simpa using hx)),QB h.orow hk (fun x hx hm=>h.iO (by simp at hm;subst hm;simpa using hx)),fun q hq=>hr (h.bdat q hq),fun q hq=>hr (h.odat q hq),h.bsnd,h.osnd,h.ne,h.foot,h.base⟩
theorem cells (h:IdlIs w base i bv ov bs os F I):w.cell? ⟨i,0,none⟩=some bv∧w.cell? ⟨i,1,none⟩=some ov∧w.cell? ⟨i,2,none⟩=some (.int .i64 I.ep)∧w.cell? ⟨i,3,none⟩=some (.int .i64 I.seq)∧w.cell? ⟨i,4,none⟩=some (.int .i64 I.done):=
 ⟨by simpa using h.blk.cell 0,by simpa using h.blk.cell 1,by simpa using h.blk.cell 2,by simpa using h.blk.cell 3,by simpa using h.blk.cell 4⟩
end IdlIs
def Qt (I:PIdl) (k b c e n:Nat):Prop:=(k=1∧b<I.base.length∧c=0∧e=0∧n=64)∨(k=2∧1≤c∧b+c≤I.base.length∧e=0∧n=0)∨(k=3∧b=0∧c=0∧e=I.ep+1∧n=0)
theorem Yr (w:World) (base i:Nat) (bv ov:Value) (bs:List (Value×List UInt8)) (os:List (Value×Option (List UInt8))) (F:List Nat) (I:PIdl) (h:IdlIs w base i bv ov bs os F I) (hB:1≤I.base.length∧I.base.length≤64) (hep:I.ep≤1000000) (k b c e n m:Nat) (A:Option Addr) (hf:Qt I k b c e n) :
 Calls Tryz.prog 79 #[.pointer (some ⟨i,0,none⟩),.agg #[.int .i64 k,.int .i64 b,.int .i64 c,.int .i64 e,.slice A n m]] w fun e w'=>e = .returned (.bool true)∧Keep [] w w':=by
 obtain ⟨BA,cb,rfl,_⟩:=JB h.brow
 have hlen:=h.blen
 obtain ⟨L,hL⟩:∃ L,L=bs.length:=⟨_,rfl⟩
 rw [← hL] at hlen h
 unfold Qt at hf
 rw [← hlen] at hf hB
 have hcl:=fun W (hk:Keep [] w W)=>(h.keep0 hk).cells
 generalize I.ep=ep at *
 clear h hL hlen
 rcases hf with ⟨rfl,h1,rfl,rfl,rfl⟩ | ⟨rfl,h1,h2,rfl,rfl⟩ | ⟨rfl,rfl,rfl,rfl,rfl⟩
 · show Calls Tryz.prog 79 #[.pointer (some ⟨i,0,none⟩),.agg #[.int .i64 1,.int .i64 b,.int .i64 0,.int .i64 0,.slice A 64 m]] w _
   have hkA:Keep [] w (w.alloc (.cells #[.int .i64 1,.int .i64 b,.int .i64 0,.int .i64 0,.slice A 64 m] 46)):=(Keep.refl _ _).alloc _
   have hbO:=Blk.new w 46 #[.int .i64 1,.int .i64 b,.int .i64 0,.int .i64 0,.slice A 64 m]
   obtain ⟨o0,o1,o2,o3,o4⟩:=QC hbO
   obtain ⟨c0,c1,c2,c3,c4⟩:=hcl _ hkA
   clear hcl
   have T1:=fun W=>YD (b:Nat) 0 ((L:Nat)-1) true (by simp;omega) W
   go_enter Tryz.func79,Tryz.ntmps79
   go_wp2_with (refine (T1 _).mono ?_;clear T1;rintro e w' ⟨rfl,rfl⟩)
   go_ret
   exact ⟨rfl,hkA⟩
 · show Calls Tryz.prog 79 #[.pointer (some ⟨i,0,none⟩),.agg #[.int .i64 2,.int .i64 b,.int .i64 c,.int .i64 0,.slice A 0 m]] w _
   have hkA:Keep [] w (w.alloc (.cells #[.int .i64 2,.int .i64 b,.int .i64 c,.int .i64 0,.slice A 0 m] 46)):=(Keep.refl _ _).alloc _
   have hbO:=Blk.new w 46 #[.int .i64 2,.int .i64 b,.int .i64 c,.int .i64 0,.slice A 0 m]
   obtain ⟨o0,o1,o2,o3,o4⟩:=QC hbO
   obtain ⟨c0,c1,c2,c3,c4⟩:=hcl _ hkA
   clear hcl
   have T1:=fun W=>YD (b:Nat) 0 ((L:Nat)-1) true (by simp;omega) W
   have T2:=fun W=>YD (c:Nat) 1 ((L:Nat)-(b:Nat)) true (by simp;omega) W
   go_enter Tryz.func79,Tryz.ntmps79
   go_wp2_with (first
    | ((with_reducible refine (T1 _).mono ?_);clear T1;rintro e w' ⟨rfl,rfl⟩)
    | ((with_reducible refine (T2 _).mono ?_);clear T2;rintro e w' ⟨rfl,rfl⟩))
   go_ret
   exact ⟨rfl,hkA⟩
 · rw [show ((ep+1:Nat):Int)=((ep:Nat):Int)+1 by omega]
   show Calls Tryz.prog 79 #[.pointer (some ⟨i,0,none⟩),.agg #[.int .i64 3,.int .i64 0,.int .i64 0,.int .i64 (((ep:Nat):Int)+1),.slice A 0 m]] w _
   have hkA:Keep [] w (w.alloc (.cells #[.int .i64 3,.int .i64 0,.int .i64 0,.int .i64 (((ep:Nat):Int)+1),.slice A 0 m] 46)):=(Keep.refl _ _).alloc _
   have hbO:=Blk.new w 46 #[.int .i64 3,.int .i64 0,.int .i64 0,.int .i64 (((ep:Nat):Int)+1),.slice A 0 m]
   obtain ⟨o0,o1,o2,o3,o4⟩:=QC hbO
   obtain ⟨c0,c1,c2,c3,c4⟩:=hcl _ hkA
   clear hcl
   have hw:IntKind.i64.wrap (((ep:Nat):Int)+1)=((ep:Nat):Int)+1:=by rw [IntKind.wrap_i64];omega
   go_enter Tryz.func79,Tryz.ntmps79
   go_wp2_with fail
   refine KA (fun w'=>w'.cell? ⟨w.heap.size,1,none⟩=some (.int .i64 0)∧w'.cell? ⟨w.heap.size,2,none⟩=some (.int .i64 0)∧w'.cell? ⟨w.heap.size,3,none⟩=some (.int .i64 (((ep:Nat):Int)+1))∧w'.cell? ⟨w.heap.size,4,none⟩=some (.slice A 0 m)∧w'.cell? ⟨i,2,none⟩=some (.int .i64 ep)) 16 [(0,false),(1,false),(2,false),(3,false),(4,false),(5,false),(6,false),(7,false),(8,false),(9,false),(10,false),(11,false),(12,false),(13,false),(14,false),(15,false)]
    (by kernel_rfl) (by kernel_rfl) (fun _ _ d _ _ h=>by cases d <;> exact h) ⟨o1,o2,o3,o4,c2⟩ ?_
   simp only [PI]
   iterate 16 (refine ZB ?_ (by rfl) ?_ ?_;rotate_left;(focus (rintro W ⟨hW1,hW2,hW3,hW4,hW5⟩;go_simp;try with_reducible rfl));simp only [Act.put,PU])
   refine ZC ?_
   go_wp2_with fail
   go_ret
   exact ⟨rfl,hkA.drew⟩
end
section
open Go.RowKit
structure OpIs (B:Nat) (ops:Nat→POp) (j k b c e:Nat) (xs:List UInt8):Prop where
 op:ops j=⟨k,b,c,e,xs⟩
 may:OpMay k b c e xs.length
 ok:b+max c 1≤B∨k=3
 for_:YW B ⟨k,b,c,e,xs⟩
theorem OpIs.dev {B len j k b c e:Nat} {ops:Nat→POp} {xs:List UInt8} (h:OpIs B ops j k b c e xs) (hops:KAl B ops len) (hj:j<len):Qt (idl B ops j) k b c e xs.length:=by
 have hl:=(Vn B ops j).1
 have he:=(hops j hj).2
 rw [h.op] at he
 simp only at he
 unfold Qt
 rw [hl]
 have ho:=h.ok
 rcases h.may with ⟨h1,h2,h3,h4,h5⟩ | ⟨h1,h2,h3,h4,h5,h6⟩ | ⟨h1,h2,h3,h4,h5,h6⟩
 · exact .inl ⟨h1,by omega,h3,h4,h5⟩
 · exact .inr (.inl ⟨h1,h3,by omega,h5,h6⟩)
 · have:=he (by omega)
   exact .inr (.inr ⟨h1,h2,h3,by omega,h6⟩)
end
section
open Go.RowKit Go.Shelf
section
variable (w:World) (base s d g t p m:Nat) (Fd Ft Fw Fm:List Nat) (L0 L1:Value) (B:Nat) (S:PS) (h:StoreIs w base s d g t p m Fd Ft Fw Fm L0 L1 B S)
include h
theorem ImageS_is:Calls Tryz.prog 50 #[.pointer (some ⟨s,0,none⟩)] w fun e w'=>e = .returned (.pointer (some ⟨m,0,none⟩))∧w=w':=by
 obtain ⟨c0,c1,c2,c3,c4,c5,c6,c7,c8,c9,c10,c11,c12,c13,c14,c15,c16,c17⟩:=YE h.blk
 go_enter Tryz.func50,Tryz.ntmps50
 go_wp2
 go_ret
 exact ⟨rfl,rfl⟩
theorem DiskS_is:Calls Tryz.prog 111 #[.pointer (some ⟨s,0,none⟩)] w fun e w'=>e = .returned (.pointer (some ⟨d,0,none⟩))∧w=w':=by
 obtain ⟨c0,c1,c2,c3,c4,c5,c6,c7,c8,c9,c10,c11,c12,c13,c14,c15,c16,c17⟩:=YE h.blk
 go_enter Tryz.func111,Tryz.ntmps111
 go_wp2
 go_ret
 exact ⟨rfl,rfl⟩
theorem BlocksS_is:Calls Tryz.prog 112 #[.pointer (some ⟨m,0,none⟩)] w fun e w'=>e = .returned (.int .i64 (B:Nat))∧w=w':=by
 obtain ⟨p1,p2,F1,F2,hi⟩:=h.img
 have:=BlocksI_is w base m p1 p2 Fm F1 F2 S.I hi
 rw [h.blen] at this
 exact this
theorem Zo (b n:Nat) (hn:1≤n) (hb:b+n≤B):Calls Tryz.prog 141 #[.pointer (some ⟨s,0,none⟩),.int .i64 (b:Nat),.int .i64 (n:Nat)] w fun e w'=>e = .returned (.bool true)∧w=w':=by
 have hI:=ImageS_is w base s d g t p m Fd Ft Fw Fm L0 L1 B S h
 have hB:=BlocksS_is w base s d g t p m Fd Ft Fw Fm L0 L1 B S h
 have h64:B≤64:=h.log.geom.few
 have h1:(1:Int)≤(n:Nat):=by omega
 have h2:((n:Nat):Int)≤(B:Nat):=by omega
 have h3:((b:Nat):Int)≤(B:Nat)-(n:Nat):=by omega
 go_enter Tryz.func141,Tryz.ntmps141
 go_wp2_with (first | (refine hI.mono ?_;clear hI;rintro e w' ⟨rfl,rfl⟩) | (refine hB.mono ?_;clear hB;rintro e w' ⟨rfl,rfl⟩))
 go_ret
 exact ⟨rfl,rfl⟩
theorem Zd (mode:Nat) (hm:mode=0∨mode=S.st.mode):Calls Tryz.prog 132 #[.pointer (some ⟨s,0,none⟩),.int .i64 (mode:Nat),.bool true] w fun e w'=>e = .returned (.int .i64 0)∧w=w':=by
 obtain ⟨c0,c1,c2,c3,c4,c5,c6,c7,c8,c9,c10,c11,c12,c13,c14,c15,c16,c17⟩:=YE h.blk
 have hOf:=YAD w base d Fd S.D h.log.disk
 rw [h.log.off] at hOf
 by_cases h0:mode=0
 · subst h0
   go_enter Tryz.func132,Tryz.ntmps132
   go_wp2_with (refine hOf.mono ?_;clear hOf;rintro e w' ⟨rfl,rfl⟩)
   go_ret
   exact ⟨rfl,rfl⟩
 · obtain rfl:=hm.resolve_left h0
   have h0':¬ ((S.st.mode:Nat):Int)=0:=by omega
   go_enter Tryz.func132,Tryz.ntmps132
   go_wp2_with (refine hOf.mono ?_;clear hOf;rintro e w' ⟨rfl,rfl⟩)
   go_ret
   exact ⟨rfl,rfl⟩
theorem QAL (hm:S.st.mode=1):Calls Tryz.prog 132 #[.pointer (some ⟨s,0,none⟩),.int .i64 1,.bool false] w fun e w'=>e = .returned (.int .i64 1)∧w=w':=by
 obtain ⟨c0,c1,c2,c3,c4,c5,c6,c7,c8,c9,c10,c11,c12,c13,c14,c15,c16,c17⟩:=YE h.blk
 rw [hm] at c5
 go_enter Tryz.func132,Tryz.ntmps132
 go_wp2_with fail
 go_ret
 exact ⟨rfl,rfl⟩
theorem Vp (a:Nat) (ha:a=0∨(6+4*pgs B≤a∧a<198+4*pgs B)) (A:Option Addr) (n c:Nat) (zs:List Int) (hz:Rd w A n (KP zs)) (hr:∀ z∈zs,z≤0∨(6+4*pgs B≤z.toNat∧z.toNat<198+4*pgs B)) (hn:n≤1000) (hA:∀ x,A=some x→x.block∉Ft) :
 Calls Tryz.prog 62 #[.pointer (some ⟨s,0,none⟩),.int .i64 (a:Nat),.slice A n c] w fun e w'=>e = .returned (.tuple #[])∧StoreIs w' base s d g t p m Fd Ft Fw Fm L0 L1 B { S with lv:=Vf B S.lv a zs }∧Keep Ft w w':=by
 have hzl:zs.length=n:=by simpa using hz.1
 have hsF:s∉Ft:=fun hm=>h.aps (by simp [hm])
 have hgF:g∉Ft:=h.log.gt
 have hfst:Calls Tryz.prog 128 #[.pointer (some ⟨t,0,none⟩),.int .i64 (a:Nat),.int .i64 1] w fun e w'=>∃ b,e = .returned (.bool b)∧TableAt w' base t g Ft S.us (Vf B S.lv a [])∧Keep Ft w w':=by
  rcases ha with rfl | ⟨h1,h2⟩
  · refine (VAl w base t g Ft S.us S.lv h.log.tab B h.log.geom 1).mono ?_
    rintro e w' ⟨rfl,hk⟩
    exact ⟨_,rfl,h.log.tab.keep0 hk,hk.zero⟩
  · refine (XAT w base t g Ft S.us S.lv h.log.tab B h.log.geom a h1 h2 1 (.inl rfl)).mono ?_
    rintro e w' ⟨rfl,ht,hk⟩
    refine ⟨_,rfl,?_,hk⟩
    unfold Vf
    rw [if_neg (by omega)]
    exact ht
 have hfin:∀ w' lv',TableAt w' base t g Ft S.us lv'→Keep Ft w w'→StoreIs w' base s d g t p m Fd Ft Fw Fm L0 L1 B { S with lv:=lv' }:=fun w' lv' ht hk=>(h.setLog (h.log.setTab ht hk) (hk.sub (fun x hx=>by simp [hx])) (Grow.refl _ _) (Grow.refl _ _)).1
 have hblk:=h.blk
 have hgeo:=h.log.geom
 obtain ⟨c0,c1,c2,c3,c4,c5,c6,c7,c8,c9,c10,c11,c12,c13,c14,c15,c16,c17⟩:=YE hblk
 clear h
 have HZL:=JC hzl
 clear hzl
 go_enter Tryz.func62,Tryz.ntmps62
 go_wp2_with (refine hfst.mono ?_;clear hfst;rintro e w1 ⟨b,rfl,ht1,hk1⟩)
 clear c0 c1 c2 c3 c4 c5 c6 c7 c8 c9 c10 c11 c12 c13 c14 c15 c16 c17
 go_loopw [16] (fun i wr=>∃ j:Nat,j≤n∧i = .int .i64 (j:Nat)∧TableAt wr base t g Ft S.us (Vf B S.lv a (zs.take j))∧Keep Ft w wr) (fun i _=>n-(intOf i).toNat)
 case atStart=>exact ⟨0,Nat.zero_le _,rfl,by simpa using ht1,hk1⟩
 case round=>
  obtain ⟨j,hj,rfl,htj,hkj⟩:=hrel
  by_cases hjn:j<n
  · have hjl:j<zs.length:=by rw [JA HZL];exact hjn
    obtain ⟨ab,ao,u,rfl,hu,hab,hcell⟩:=(hz.keepIf hkj hA).at_ hjn
    have hzx:zs[j]? = some zs[j]:=List.getElem?_eq_getElem hjl
    simp only [KP,i64,List.getElem?_map,hzx,Option.map_some,Option.some.injEq] at hu
    have hzr:=hr zs[j] (List.getElem_mem _)
    have hsn:Vf B S.lv a (zs.take (j+1))=if 0<zs[j] then JS (Vf B S.lv a (zs.take j)) ((zs[j].toNat-(6+4*pgs B)) / 24) (-1) else Vf B S.lv a (zs.take j):=by
     unfold Vf
     rw [List.take_succ_eq_append_getElem hjl,List.foldl_append]
     rfl
    obtain ⟨c0,c1,c2,c3,c4,c5,c6,c7,c8,c9,c10,c11,c12,c13,c14,c15,c16,c17⟩:=YE (hblk.keep hkj hsF)
    subst hu
    have HSN:=JC hsn
    clear hsn hzx
    generalize zs[j]=z at *
    by_cases hz0:0<z
    · have hz1:=hzr.resolve_left (by omega)
      have hAd:=XAT wr base t g Ft S.us _ htj B (hgeo.keep hkj hgF) z.toNat hz1.1 hz1.2 (-1) (.inr rfl)
      rw [show ((z.toNat:Nat):Int)=z by omega] at hAd
      go_wp2_with (refine hAd.mono ?_;clear hAd;rintro e w2 ⟨rfl,ht2,hk2⟩)
      go_roundw
      case rel=>exact ⟨j+1,by omega,by go_num,by rw [JA HSN,if_pos hz0];exact ht2,hkj.trans hk2 (fun x hx => .inl hx)⟩
      case measure=>simp [intOf];omega
    · go_wp2_with fail
      go_roundw
      case rel=>exact ⟨j+1,by omega,by go_num,by rw [JA HSN,if_neg hz0];exact htj,hkj⟩
      case measure=>simp [intOf];omega
  · obtain rfl:j=n:=by omega
    go_wp2_with fail
    refine bodyPost_end (v := .tuple #[]) (by simp [results,Tryz.results62,go_sem]) rfl ?_
    rw [List.take_of_length_le (by rw [JA HZL];exact Nat.le_refl _)] at htj
    exact ⟨rfl,hfin _ _ htj hkj,hkj⟩
theorem QAN (ho:S.W.Ok) (ha:S.D.acts≤1000000) (hlsn:S.W.pos.lsn<2147483647) :
 Calls Tryz.prog 259 #[.pointer (some ⟨s,0,none⟩)] w fun e w'=>e = .returned (.int .i64 0)∧∃ Fd' Fw' D2 us2 W2,StoreIs w' base s d g t p m Fd' Ft Fw' Fm L0 L1 B { S with D:=D2.flush,us:=us2,W:=W2 }∧Emitted B S.D S.us S.W D2 us2 W2 ∧
  Keep (Fd++(Ft++Fw)) w w'∧Grow w Fd Fd'∧Grow w Fw Fw':=by
 have hE:=Qy w base d g t p Fd Ft Fw B S.D S.us S.lv S.W h.log ho ha hlsn
 have hblk:=h.blk
 have hsn:s∉Fd++(Ft++Fw):=fun hm=>h.aps (by simp only [List.mem_cons,List.mem_append] at hm ⊢;rcases hm with hm | hm | hm <;> simp [hm])
 obtain ⟨c0,c1,c2,c3,c4,c5,c6,c7,c8,c9,c10,c11,c12,c13,c14,c15,c16,c17⟩:=YE hblk
 go_enter Tryz.func259,Tryz.ntmps259
 go_wp2_with (first
  | (go_at_call 133
     refine hE.mono ?_
     clear hE c0 c1 c2 c3 c4 c5 c6 c7 c8 c9 c10 c11 c12 c13 c14 c15 c16 c17
     rintro e w1 ⟨rfl,Fd1,Fw1,D1,us1,W1,h1,hE1,hk1,hg1,hgw1⟩
     obtain ⟨c0,c1,c2,c3,c4,c5,c6,c7,c8,c9,c10,c11,c12,c13,c14,c15,c16,c17⟩:=YE (hblk.keep hk1 hsn)
     have hf:=hE1.facts ho
     have hFl:=YAE w1 base d Fd1 D1 h1.disk h1.off h1.fuse (by have:=hf.2.2.2.2.2.2.2.2.1;omega) h1.le)
  | (go_at_call 16
     refine hFl.mono ?_
     clear hFl
     rintro e w2 ⟨rfl,Fd2,hD2,hk2,hg2⟩))
 go_ret
 have h2:=h1.setDisk hD2 hk2 hg2 rfl rfl rfl
 have hkk:Keep (Fd++(Ft++Fw)) w w2:=hk1.trans hk2 (fun x hx=>(hg1 x hx).imp (fun h=>by simp [h]) id)
 obtain ⟨hS,_⟩:=h.setLog h2 hkk (hg1.trans hk1.size hg2) hgw1
 exact ⟨rfl,Fd2,Fw1,D1,us1,W1,hS,hE1,hkk,hg1.trans hk1.size hg2,hgw1⟩
end
end
section
open Go.RowKit Go.Shelf
theorem VZ {B:Nat} {S:PS} {x z:Int} (h:x = -1∨RefOk B S x):QH x z≤0∨(6+4*pgs B≤(QH x z).toNat∧(QH x z).toNat<198+4*pgs B):=by
 unfold QH
 split
 · exact .inl (Int.le_refl _)
 · rcases h with rfl | rfl | ⟨h0,hl⟩
   · exact .inl (by omega)
   · exact .inl (by omega)
   · right
     rw [show max x 0=x by omega]
     exact ⟨hl.lo,hl.hi⟩
theorem Zs {l:List Int} {i:Nat} (h:i<l.length):l.getD i 0∈l:=by
 rw [List.getD_eq_getElem?_getD,List.getElem?_eq_getElem h]
 exact List.getElem_mem h
theorem Good.room {B:Nat} {S:PS} {k j:Nat} (hg:Good B S k j) (hk:k≤50) {m:Nat} (hm:m≤1) (spare:Bool):VAU S.us S.W m spare:=by
 intro _ hf
 have hfree:=hg.cap.free hk hm hf
 obtain ⟨g1,g2⟩:=JU S.us (by omega)
 exact ⟨by have:=hg.cap.ul;omega,g2,fun _=>hfree⟩
theorem JAu {s g:Nat} {Fd Ft Fw Fm:List Nat} {L0 L1:Value} {l:List Nat} (h:∀ x∈l,x=s∨x∈Fd∨x∈Ft∨x∈Fw∨x∈Fm):∀ x∈l,x∈JW s g Fd Ft Fw Fm L0 L1:=fun x hx=>by
 simp only [JW,List.mem_cons,List.mem_append]
 rcases h x hx with h | h | h | h | h <;> simp [h]
theorem KAP (w:World) (base s d:Nat) (F:List Nat) (B:Nat) (S:PS) (h:StoreAt w base s d F B S) (k j:Nat) (hg:Good B S k j) (hk:k≤50) (hj:j≤20000) (hm:S.st.mode=1) (b:Nat) (hb:b<B) (A:Option Addr) (c:Nat) (bs:List UInt8) (hr:Rd w A 64 (bys bs)) (hA:∀ x,A=some x→x.block∉F) :
 Calls Tryz.prog 202 #[.pointer (some ⟨s,0,none⟩),.int .i64 (b:Nat),.slice A 64 c] w fun e w'=>e = .returned (.int .i64 0)∧∃ F' S',StoreAt w' base s d F' B S'∧Wrote B S b bs S'∧Keep F w w'∧Grow w F F':=by
 obtain ⟨g,t,p,m,Fd,Ft,Fw,Fm,L0,L1,h,rfl⟩:=h
 have hbl:bs.length=64:=by simpa using hr.1
 have hH:=Zo w base s d g t p m Fd Ft Fw Fm L0 L1 B S h b 1 (by omega) (by omega)
 have hQ:=Zd w base s d g t p m Fd Ft Fw Fm L0 L1 B S h 1 (.inr hm.symm)
 have hmay:PItem.May ⟨1,b,0,0⟩ := .inl ⟨.inl rfl,by have:=hg.b64;simp only;omega,rfl,rfl⟩
 have hacts:=hg.cap.acts
 have hlsn:=hg.cap.lsn
 have hAd:=KAW w base d g t p Fd Ft Fw B S.D S.us S.lv S.W h.log hg.cap.ok hg.cap.off false (by omega) (by omega) hg.cap.opn ⟨1,b,0,0⟩ hmay (by simp) (hg.room hk (by unfold ZT;split <;> omega) false) A c bs (by simpa [ZT,PItem.loaded] using hr) (fun x hx hm=>hA x hx (JAu (by intro y hy;simp only [List.mem_append] at hy;rcases hy with h | h | h <;> simp [h]) _ hm))
 rw [show 64*ZT ⟨1,b,0,0⟩=64 by simp [ZT,PItem.loaded]] at hAd
 simp only [itc] at hAd
 have hblk:=h.blk
 have hseq:S.st.seq≤20000:=by have:=hg.seq;omega
 have hsn:s∉Fd++(Ft++Fw):=fun hm=>h.aps (by simp only [List.mem_cons,List.mem_append] at hm ⊢;rcases hm with hm | hm | hm <;> simp [hm])
 obtain ⟨c0,c1,c2,c3,c4,c5,c6,c7,c8,c9,c10,c11,c12,c13,c14,c15,c16,c17⟩:=YE hblk
 go_enter Tryz.func202,Tryz.ntmps202
 go_wp2_with (first
  | (go_at_call 141
     refine hH.mono ?_
     clear hH
     rintro e w' ⟨rfl,rfl⟩)
  | (go_at_call 132
     refine hQ.mono ?_
     clear hQ
     rintro e w' ⟨rfl,rfl⟩)
  | (go_at_call 256
     refine hAd.mono ?_
     clear hAd c0 c1 c2 c3 c4 c5 c6 c7 c8 c9 c10 c11 c12 c13 c14 c15 c16 c17
     rintro e w1 ⟨a,rfl,Fd1,Fw1,D1,us1,lv1,W1,h1,hA1,hk1,hg1,hgw1⟩
     have hblk1:=hblk.keep hk1 hsn
     have f8:=hblk1.frozen 8
     obtain ⟨c0,c1,c2,c3,c4,c5,c6,c7,c8,c9,c10,c11,c12,c13,c14,c15,c16,c17⟩:=YE hblk1))
 obtain ⟨hI1,hG1⟩:=h.setLog h1 hk1 hg1 hgw1
 have hks:Keep [s] w1 (w1.setCell ⟨s,8,none⟩ (.int .i64 ((S.st.seq:Nat)+1))):=(Keep.refl _ _).setCell (p:=⟨s,8,none⟩) (.inl (by simp)) _
 have hbz:=hblk1.set 8 (.int .i64 ((S.st.seq:Nat)+1))
 have hI2:=hI1.setSt { S.st with seq:=S.st.seq+1 } (by simpa using hbz) hks
 obtain ⟨_,_,_,_,hAr⟩:=hA1.reads hg.cap hk hg.now hg.many
 obtain ⟨hAr,_⟩:=hAr rfl
 have hal:=hAr.lo
 have hah:=hAr.hi
 have hp5:=(XE h.log.geom.pos h.log.geom.few).2
 have hW:=XAW _ base m Fm S.I hI2.img b a (by rw [h.blen];exact hb) (by omega)
 have hgo:=VZ (z:=(a:Nat)) (hg.orefs (S.I.ol.getD b 0) (Zs (by rw [hg.ol];exact hb)))
 obtain ⟨gone,hgone⟩:∃ z,z=QH (S.I.ol.getD b 0) a:=⟨_,rfl⟩
 rw [← hgone] at hW hgo
 have HGO:=JC hgone
 clear hgone
 generalize w1.setCell ⟨s,8,none⟩ (.int .i64 ((S.st.seq:Nat)+1))=w2 at *
 have hmF:s∉Fm:=fun hm=>h.aps (by simp [hm])
 have hblk2:=hI2.blk
 clear c0 c1 c2 c3 c4 c5 c6 c7 c8 c9 c10 c11 c12 c13 c14 c15 c16 c17
 go_wp2_with (first
  | (go_at_call 257
     refine hW.mono ?_
     clear hW
     rintro e w3 ⟨rfl,hi3,hk3⟩))
 have hI3:=hI2.setImg hi3 (by simp) hk3
 have hkB:Keep [] w3 (w3.alloc (.cells #[.int .i64 gone] 3)):=(Keep.refl _ _).alloc _
 have hrd:=VL w3 (.int .i64 gone) 3
 have hlt3:∀ x∈Ft,x<w3.heap.size:=fun x hx=>hI3.log.tab.lt x hx
 have hLv:=Vp _ base s d g t p m Fd1 Ft Fw1 Fm L0 L1 B _ (hI3.keep0 hkB) a (.inr ⟨hal,hah⟩) _ 1 1 [gone] hrd (by simpa using hgo) (by omega) (fun x hx hm=>by cases hx;have:=hlt3 _ hm;simp at this)
 go_wp2_with (refine hLv.mono ?_;clear hLv;rintro e w4 ⟨rfl,hI4,hk4⟩)
 go_ret
 have hsub:∀ {l:List Nat} {u v:World},(∀ x∈l,x=s∨x∈Fd∨x∈Ft∨x∈Fw∨x∈Fm)→Keep l u v→Keep (JW s g Fd Ft Fw Fm L0 L1) u v:=fun hl hk=>hk.sub (JAu hl)
 have K1:=hsub (by intro x hx;simp only [List.mem_append] at hx;rcases hx with h | h | h <;> simp [h]) hk1
 have K2:=K1.trans (hsub (by intro x hx;simp at hx;simp [hx]) hks) (fun x hx => .inl hx)
 have K3:=K2.trans (hsub (by intro x hx;simp [hx]) hk3) (fun x hx => .inl hx)
 have K4:=(K3.trans0 hkB).trans (hsub (by intro x hx;simp [hx]) hk4) (fun x hx => .inl hx)
 refine ⟨rfl,_,_,⟨g,t,p,m,Fd1,Ft,Fw1,Fm,L0,L1,hI4,rfl⟩,⟨D1,us1,lv1,W1,a,hA1,?_⟩,K4,hG1⟩
 rw [← JA HGO]
end
section
open Go.RowKit Go.Shelf
theorem Yx {B:Nat} {S:PS} (b n:Nat) (l:List Int) (ds:List Bool) (h:∀ x∈l,x = -1∨RefOk B S x) (hb:b+n≤l.length) :
 (∀ x∈(YH b n l ds).2.1,x = -1∨RefOk B S x)∧∀ x∈(YH b n l ds).1,x≤0∨(6+4*pgs B≤x.toNat∧x.toNat<198+4*pgs B):=by
 induction n with
 | zero=>exact ⟨h,by intro x hx;cases hx⟩
 | succ n ih=>
   obtain ⟨h1,h2⟩:=ih (by omega)
   have hlen:=(ZJ b n l ds).1
   rw [QP]
   unfold ZM
   refine ⟨fun x hx=>?_,fun x hx=>?_⟩
   · simp only at hx
     rcases List.mem_or_eq_of_mem_set hx with hx | rfl
     · exact h1 x hx
     · exact .inr (.inl rfl)
   · simp only at hx
     split at hx
     · rcases List.mem_append.1 hx with hx | hx
       · exact h2 x hx
       · simp only [List.mem_singleton] at hx
         subst hx
         exact VZ (h1 _ (Zs (by omega)))
     · exact h2 x (by simpa using hx)
theorem KAK {B:Nat} {S:PS} (bl ol:List Int) (k:Nat) (h:∀ x∈bl,RefOk B S x):∀ x∈Jo bl ol k,x≤0∨(6+4*pgs B≤x.toNat∧x.toNat<198+4*pgs B):=by
 intro x hx
 unfold Jo at hx
 obtain ⟨p,hp,hx⟩:=List.mem_flatMap.1 hx
 have hp1:p.1∈bl:=(List.of_mem_zip (List.mem_of_mem_take hp)).1
 split at hx
 · cases hx
 · split at hx
   · simp only [List.mem_singleton] at hx
     subst hx
     exact VZ (.inr (h _ hp1))
   · cases hx
theorem JAb (w:World) (base s d:Nat) (F:List Nat) (B:Nat) (S:PS) (h:StoreAt w base s d F B S) (k j:Nat) (hg:Good B S k j) (hk:k≤50) (hj:j≤20000) (hm:S.st.mode=1) (b n:Nat) (hn:1≤n) (hb:b+n≤B) :
 Calls Tryz.prog 203 #[.pointer (some ⟨s,0,none⟩),.int .i64 (b:Nat),.int .i64 (n:Nat)] w fun e w'=>e = .returned (.int .i64 0)∧∃ F' S',StoreAt w' base s d F' B S'∧Trimmed B S b n S'∧Keep F w w'∧Grow w F F':=by
 obtain ⟨g,t,p,m,Fd,Ft,Fw,Fm,L0,L1,h,rfl⟩:=h
 have hH:=Zo w base s d g t p m Fd Ft Fw Fm L0 L1 B S h b n hn hb
 have hQ:=Zd w base s d g t p m Fd Ft Fw Fm L0 L1 B S h 1 (.inr hm.symm)
 have hmay:PItem.May ⟨2,b,n,0⟩ := .inr (.inl ⟨.inl rfl,by have:=hg.b64;simp only;omega,hn,by have:=hg.b64;simp only;omega,rfl⟩)
 have hacts:=hg.cap.acts
 have hlsn:=hg.cap.lsn
 have hAd:=KAW w base d g t p Fd Ft Fw B S.D S.us S.lv S.W h.log hg.cap.ok hg.cap.off false (by omega) (by omega) hg.cap.opn ⟨2,b,n,0⟩ hmay (by simp) (hg.room hk (by unfold ZT;split <;> omega) false) none 0 [] (by rw [show 64*ZT ⟨2,b,n,0⟩=0 by simp [ZT,PItem.loaded]];exact Rd.nil w none) (fun x hx=>by cases hx)
 rw [show 64*ZT ⟨2,b,n,0⟩=0 by simp [ZT,PItem.loaded]] at hAd
 simp only [itc] at hAd
 have hblk:=h.blk
 have hseq:S.st.seq≤20000:=by have:=hg.seq;omega
 have hsn:s∉Fd++(Ft++Fw):=fun hm=>h.aps (by simp only [List.mem_cons,List.mem_append] at hm ⊢;rcases hm with hm | hm | hm <;> simp [hm])
 obtain ⟨c0,c1,c2,c3,c4,c5,c6,c7,c8,c9,c10,c11,c12,c13,c14,c15,c16,c17⟩:=YE hblk
 go_enter Tryz.func203,Tryz.ntmps203
 go_wp2_with (first
  | (go_at_call 141
     refine hH.mono ?_
     clear hH
     rintro e w' ⟨rfl,rfl⟩)
  | (go_at_call 132
     refine hQ.mono ?_
     clear hQ
     rintro e w' ⟨rfl,rfl⟩)
  | (go_at_call 256
     refine hAd.mono ?_
     clear hAd c0 c1 c2 c3 c4 c5 c6 c7 c8 c9 c10 c11 c12 c13 c14 c15 c16 c17
     rintro e w1 ⟨a,rfl,Fd1,Fw1,D1,us1,lv1,W1,h1,hA1,hk1,hg1,hgw1⟩
     have hblk1:=hblk.keep hk1 hsn
     have f8:=hblk1.frozen 8
     obtain ⟨c0,c1,c2,c3,c4,c5,c6,c7,c8,c9,c10,c11,c12,c13,c14,c15,c16,c17⟩:=YE hblk1))
 obtain ⟨hI1,hG1⟩:=h.setLog h1 hk1 hg1 hgw1
 have hks:Keep [s] w1 (w1.setCell ⟨s,8,none⟩ (.int .i64 ((S.st.seq:Nat)+1))):=(Keep.refl _ _).setCell (p:=⟨s,8,none⟩) (.inl (by simp)) _
 have hbz:=hblk1.set 8 (.int .i64 ((S.st.seq:Nat)+1))
 have hI2:=hI1.setSt { S.st with seq:=S.st.seq+1 } (by simpa using hbz) hks
 have hW:=VAd _ base m Fm S.I hI2.img b n hn (by rw [h.blen];exact hb)
 have hgo:=(Yx b n S.I.ol S.I.od hg.orefs (by rw [hg.ol];exact hb)).2
 have hgl:=(KN b n S.I.ol S.I.od (-1) (by omega) hI2.img.ok.2.2).2.2
 have hb64:=hg.b64
 obtain ⟨tr,htr⟩:∃ z,z=YH b n S.I.ol S.I.od:=⟨_,rfl⟩
 have htl:tr.2.1.length=S.I.ol.length:=by rw [htr];exact (ZJ b n S.I.ol S.I.od).1
 rw [← htr] at hW hgo hgl
 have HGO:=JC htr
 clear htr
 generalize w1.setCell ⟨s,8,none⟩ (.int .i64 ((S.st.seq:Nat)+1))=w2 at *
 have hmF:s∉Fm:=fun hm=>h.aps (by simp [hm])
 have hblk2:=hI2.blk
 clear c0 c1 c2 c3 c4 c5 c6 c7 c8 c9 c10 c11 c12 c13 c14 c15 c16 c17
 go_wp2_with (first
  | (go_at_call 258
     refine hW.mono ?_
     clear hW
     rintro e w3 ⟨G,rfl,hG,hi3,hk3⟩
     obtain ⟨GA,gc,rfl,_⟩:=JB hG))
 have hI3:=hI2.setImg hi3 (by simp) hk3
 have hlt3:∀ x∈Ft,x<w2.heap.size:=fun x hx=>hI2.log.tab.lt x hx
 have hLv:=Vp _ base s d g t p m Fd1 Ft Fw1 Fm L0 L1 B _ hI3 0 (.inl rfl) GA tr.1.length gc tr.1 (Rd.of_own hG) hgo (by omega) (fun x hx hm=>by
  subst hx
  obtain ⟨h1,h2⟩ | ⟨gb,cap,cur,e,h1,_⟩:=hG.2
  · cases h1
  · injection e with e _ _
    injection e with e
    subst e
    have:=hlt3 _ hm
    simp at this;omega)
 go_wp2_with (refine hLv.mono ?_;clear hLv;rintro e w4 ⟨rfl,hI4,hk4⟩)
 go_ret
 have hsub:∀ {l:List Nat} {u v:World},(∀ x∈l,x=s∨x∈Fd∨x∈Ft∨x∈Fw∨x∈Fm)→Keep l u v→Keep (JW s g Fd Ft Fw Fm L0 L1) u v:=fun hl hk=>hk.sub (JAu hl)
 have K1:=hsub (by intro x hx;simp only [List.mem_append] at hx;rcases hx with h | h | h <;> simp [h]) hk1
 have K2:=K1.trans (hsub (by intro x hx;simp at hx;simp [hx]) hks) (fun x hx => .inl hx)
 have K3:=K2.trans (hsub (by intro x hx;simp [hx]) hk3) (fun x hx => .inl hx)
 have K4:=K3.trans (hsub (by intro x hx;simp [hx]) hk4) (fun x hx => .inl hx)
 refine ⟨rfl,_,_,⟨g,t,p,m,Fd1,Ft,Fw1,Fm,L0,L1,hI4,rfl⟩,⟨D1,us1,lv1,W1,a,hA1,?_⟩,K4,hG1⟩
 rw [← JA HGO]
end
section
open Go.RowKit Go.Shelf
theorem ZAL (w:World) (base s d:Nat) (F:List Nat) (B:Nat) (S:PS) (h:StoreAt w base s d F B S) (hm:S.st.mode=1) (e:Nat) (he:e≠S.st.epoch+1) (heb:S.st.epoch≤1000000000) :
 Calls Tryz.prog 204 #[.pointer (some ⟨s,0,none⟩),.int .i64 (e:Nat)] w fun r w'=>r = .returned (.int .i64 1)∧w=w':=by
 obtain ⟨g,t,p,m,Fd,Ft,Fw,Fm,L0,L1,h,rfl⟩:=h
 have hQ:=QAL w base s d g t p m Fd Ft Fw Fm L0 L1 B S h hm
 obtain ⟨c0,c1,c2,c3,c4,c5,c6,c7,c8,c9,c10,c11,c12,c13,c14,c15,c16,c17⟩:=YE h.blk
 have heI:¬ ((e:Nat):Int)=(S.st.epoch:Nat)+1:=by omega
 go_enter Tryz.func204,Tryz.ntmps204
 have heB:(((e:Nat):Int) == (S.st.epoch:Nat)+1)=false:=by simpa using heI
 clear heI he
 go_wp2_with (refine hQ.mono ?_;clear hQ;rintro r w' ⟨rfl,rfl⟩)
 go_ret
 exact ⟨rfl,rfl⟩
theorem KAd (w:World) (base s d:Nat) (F:List Nat) (B:Nat) (S:PS) (h:StoreAt w base s d F B S) (k j:Nat) (hg:Good B S k j) (hk:k≤50) (hj:j≤20000) (hm:S.st.mode=1) (e:Nat) (he:e=S.st.epoch+1) :
 Calls Tryz.prog 204 #[.pointer (some ⟨s,0,none⟩),.int .i64 (e:Nat)] w fun r w'=>r = .returned (.int .i64 0)∧∃ F' S',StoreAt w' base s d F' B S'∧Marked B S e S'∧Keep F w w'∧Grow w F F':=by
 obtain ⟨g,t,p,m,Fd,Ft,Fw,Fm,L0,L1,h,rfl⟩:=h
 have hQ:=Zd w base s d g t p m Fd Ft Fw Fm L0 L1 B S h 1 (.inr hm.symm)
 have heb:S.st.epoch≤20000:=by have:=hg.epoch;omega
 have hmay:PItem.May ⟨3,0,0,e⟩ := .inr (.inr (.inl ⟨rfl,rfl,rfl,by simp only;omega,by simp only;omega⟩))
 have hacts:=hg.cap.acts
 have hlsn:=hg.cap.lsn
 have hAd:=KAW w base d g t p Fd Ft Fw B S.D S.us S.lv S.W h.log hg.cap.ok hg.cap.off false (by omega) (by omega) hg.cap.opn ⟨3,0,0,e⟩ hmay (by simp) (hg.room hk (by unfold ZT;split <;> omega) false) none 0 [] (by rw [show 64*ZT ⟨3,0,0,e⟩=0 by simp [ZT,PItem.loaded]];exact Rd.nil w none) (fun x hx=>by cases hx)
 rw [show 64*ZT ⟨3,0,0,e⟩=0 by simp [ZT,PItem.loaded]] at hAd
 simp only [itc] at hAd
 have hblk:=h.blk
 have hseq:S.st.seq≤20000:=by have:=hg.seq;omega
 have hsn:s∉Fd++(Ft++Fw):=fun hm=>h.aps (by simp only [List.mem_cons,List.mem_append] at hm ⊢;rcases hm with hm | hm | hm <;> simp [hm])
 obtain ⟨c0,c1,c2,c3,c4,c5,c6,c7,c8,c9,c10,c11,c12,c13,c14,c15,c16,c17⟩:=YE hblk
 have heI:((e:Nat):Int)=(S.st.epoch:Nat)+1:=by omega
 have HE:=JC he
 clear he
 go_enter Tryz.func204,Tryz.ntmps204
 go_wp2_with (first
  | (go_at_call 132
     refine hQ.mono ?_
     clear hQ heI
     rintro r w' ⟨rfl,rfl⟩)
  | (go_at_call 256
     refine hAd.mono ?_
     clear hAd c0 c1 c2 c3 c4 c5 c6 c7 c8 c9 c10 c11 c12 c13 c14 c15 c16 c17
     rintro r w1 ⟨a,rfl,Fd1,Fw1,D1,us1,lv1,W1,h1,hA1,hk1,hg1,hgw1⟩
     obtain ⟨hI1,hG1⟩:=h.setLog h1 hk1 hg1 hgw1
     have hc1:=hg.cap.added hk hmay (fun h=>by cases h) hA1
     have hLs:=QAN w1 base s d g t p m Fd1 Ft Fw1 Fm L0 L1 B _ hI1 hc1.ok (by have:=hc1.acts;simp only;omega) (by have:=hc1.lsn;simp only;omega))
  | (go_at_call 259
     refine hLs.mono ?_
     clear hLs
     rintro r w2 ⟨rfl,Fd2,Fw2,D2,us2,W2,hI2,hE2,hk2,hg2,hgw2⟩
     have hblk2:=hI2.blk
     have f7:=hblk2.frozen 7
     have f8:=hblk2.frozen 8
     have f9:=hblk2.frozen 9
     simp only at hblk2
     obtain ⟨c0,c1,c2,c3,c4,c5,c6,c7,c8,c9,c10,c11,c12,c13,c14,c15,c16,c17⟩:=YE hblk2))
 have hks:Keep [s] w2 (((w2.setCell ⟨s,7,none⟩ (.int .i64 (e:Nat))).setCell ⟨s,8,none⟩ (.int .i64 ((S.st.seq:Nat)+1))).setCell ⟨s,9,none⟩ (.int .i64 ((S.st.seq:Nat)+1))):=
  (((Keep.refl [s] w2).setCell (p:=⟨s,7,none⟩) (.inl (by simp)) _).setCell (p:=⟨s,8,none⟩) (.inl (by simp)) _).setCell (p:=⟨s,9,none⟩) (.inl (by simp)) _
 have hbz:=((hblk2.set 7 (.int .i64 (e:Nat))).set 8 (.int .i64 ((S.st.seq:Nat)+1))).set 9 (.int .i64 ((S.st.seq:Nat)+1))
 have hI3:=hI2.setSt { S.st with epoch:=e,seq:=S.st.seq+1,done:=S.st.seq+1 } (by simpa using hbz) hks
 have hCm:=JAN _ base m Fm S.I hI3.img
 have hgo:=KAK (B:=B) (S:=S) S.I.bl S.I.ol S.I.ol.length hg.brefs
 have hgl:=Ke S.I.bl S.I.ol S.I.ol.length
 have hol:=hg.ol
 have hb64:=hg.b64
 have hbl:=hg.bl
 have hcl:(Xe S.I.bl S.I.ol S.I.ol.length).length=S.I.bl.length:=Xg (by omega) (by omega)
 obtain ⟨gs,hgs⟩:∃ z,z=Jo S.I.bl S.I.ol S.I.ol.length:=⟨_,rfl⟩
 rw [← hgs] at hCm hgo hgl
 have HGO:=JC hgs
 clear hgs
 generalize ((w2.setCell ⟨s,7,none⟩ (.int .i64 (e:Nat))).setCell ⟨s,8,none⟩ (.int .i64 ((S.st.seq:Nat)+1))).setCell ⟨s,9,none⟩ (.int .i64 ((S.st.seq:Nat)+1))=w3 at *
 have hblk3:=hI3.blk
 clear c0 c1 c2 c3 c4 c5 c6 c7 c8 c9 c10 c11 c12 c13 c14 c15 c16 c17
 go_wp2_with (first
  | (go_at_call 260
     refine hCm.mono ?_
     clear hCm
     rintro r w4 ⟨G,bd,od,rfl,hG,hi4,hk4⟩
     obtain ⟨GA,gc,rfl,_⟩:=JB hG))
 have hI4:=hI3.setImg hi4 (by simpa using hcl) hk4
 have hlt4:∀ x∈Ft,x<w3.heap.size:=fun x hx=>hI3.log.tab.lt x hx
 have hLv:=Vp _ base s d g t p m Fd2 Ft Fw2 Fm L0 L1 B _ hI4 0 (.inl rfl) GA gs.length gc gs (Rd.of_own hG) hgo (by omega) (fun x hx hm=>by
  subst hx
  obtain ⟨h1,h2⟩ | ⟨gb,cap,cur,e,h1,_⟩:=hG.2
  · cases h1
  · injection e with e _ _
    injection e with e
    subst e
    have:=hlt4 _ hm
    simp at this;omega)
 go_wp2_with (refine hLv.mono ?_;clear hLv;rintro r w5 ⟨rfl,hI5,hk5⟩)
 go_ret
 have hsub:∀ {l:List Nat} {u v:World},(∀ x∈l,x=s∨x∈Fd∨x∈Ft∨x∈Fw∨x∈Fm)→Keep l u v→Keep (JW s g Fd Ft Fw Fm L0 L1) u v:=fun hl hk=>hk.sub (JAu hl)
 have hGG:=(h.setLog h1 hk1 hg1 hgw1).2
 obtain ⟨_,hG2⟩:=hI1.setLog (hI2.log) hk2 hg2 hgw2
 have K1:=hsub (by intro x hx;simp only [List.mem_append] at hx;rcases hx with h | h | h <;> simp [h]) hk1
 have K2:=K1.trans hk2 (fun x hx=>hGG x (JAu (by intro y hy;simp only [List.mem_append] at hy;rcases hy with h | h | h <;> simp [h]) x hx))
 have K3:=K2.trans (hsub (by intro x hx;simp at hx;simp [hx]) hks) (fun x hx => .inl hx)
 have K4:=K3.trans (hsub (by intro x hx;simp [hx]) hk4) (fun x hx => .inl hx)
 have K5:=K4.trans (hsub (by intro x hx;simp [hx]) hk5) (fun x hx => .inl hx)
 refine ⟨rfl,_,_,⟨g,t,p,m,Fd2,Ft,Fw2,Fm,L0,L1,hI5,rfl⟩,⟨D1,us1,lv1,W1,a,D2,us2,W2,bd,od,hA1,hE2,?_⟩,K5,hGG.trans hk1.size hG2⟩
 rw [← JA HGO]
end
end Go.Proofs.YtmoagodllhdemaaGreat
