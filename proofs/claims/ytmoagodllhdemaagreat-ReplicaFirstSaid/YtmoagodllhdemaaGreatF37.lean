/-
  A part of the proof: lemmas, and contracts of functions; their conditions stand in them.
-/
import Derived.Test.YtmoagodllhdemaaGreatF36
import Derived.Test.YtmoagodllhdemaaGreatF08
import Derived.Test.YtmoagodllhdemaaGreatF10
import Derived.Test.YtmoagodllhdemaaGreatF05
namespace Go.Proofs.YtmoagodllhdemaaGreat
set_option linter.unusedSimpArgs false
set_option linter.unusedVariables false
set_option maxHeartbeats 8000000
set_option maxRecDepth 40000
section
open Go.RowKit Go.Shelf
namespace IdlIs
variable {w w1:World} {base i:Nat} {bv ov:Value} {bs:List (Value×List UInt8)} {os:List (Value×Option (List UInt8))} {F:List Nat} {I:PIdl}
theorem row_ne {v:Value} {o:Option (List UInt8)} {u:Value} {n:Nat} {ys:List Value} (hv:ORow w base v o) (hu:w.ownsRow base 40 1 u n ys) {g:Nat} (hg:g∈v.ownBlock.toList):u.ownBlock≠some g:=by
 rcases hv with ⟨_,rfl⟩ | ⟨xs,_,_,h3⟩
 · simp [Value.ownBlock] at hg
 · exact own_ne h3 hu (by decide) (by simpa using hg)
theorem setO {go n co:Nat} (h:IdlIs w base i bv (.slice (some ⟨go,0,none⟩) n co) bs os F I) (hk1:Keep [] w w1) {k:Nat} {v:Value} {o:Option (List UInt8)} (hv:ORow w1 base v o) :
 ∃ F',IdlIs (w1.setCell ⟨go,k,none⟩ v) base i bv (.slice (some ⟨go,0,none⟩) n co) bs (os.set k (v,o)) F' { I with over:=I.over.set k o }∧Keep [go] w1 (w1.setCell ⟨go,k,none⟩ v)∧∀ x∈F',x∈F∨x∈v.ownBlock.toList:=by
 have h1:=h.keep0 hk1
 obtain rfl:n=os.length:=by obtain ⟨_,_,e,_⟩:=ZB h1.orow;cases e;rfl
 have hk:Keep [go] w1 (w1.setCell ⟨go,k,none⟩ v):=(Keep.refl [go] w1).setCell (p:=⟨go,k,none⟩) (.inl (by simp)) _
 have hgo:∀ {u:Value} {p:Option (List UInt8)},ORow w1 base u p→∀ g∈u.ownBlock.toList,g∉[go]:=fun hu g hg hm=>by
  simp at hm;subst hm
  exact row_ne hu h1.orow hg (by simp [Value.ownBlock])
 refine ⟨_,⟨h1.blk.keep hk (fun hm=>h1.iO (by simp at hm;simp [Value.ownBlock,hm])),KA h1.brow hk (fun x hx hm=>?_),?_,fun q hq=>(h1.bdat q hq).keep hk (hgo (h1.bdat q hq)),fun q hq=>?_,h1.bsnd,?_,h1.ne,rfl,h1.base⟩,hk,fun x hx=>?_⟩
 · simp at hm;subst hm
   exact h1.ne (by rw [hx];rfl)
 · have:=JQ h1.orow k v
   rw [List.length_set,List.map_set]
   exact this
 · rcases List.mem_or_eq_of_mem_set hq with hq | rfl
   · exact (h1.odat q hq).keep hk (hgo (h1.odat q hq))
   · exact hv.keep hk (hgo hv)
 · rw [List.map_set,h1.osnd]
 · simp only [List.mem_cons,List.mem_append,List.mem_flatMap] at hx
   rcases hx with hx | hx | hx | ⟨q,hq,hx⟩ | ⟨q,hq,hx⟩
   · exact .inl (by subst hx;exact h.inI)
   · exact .inl (h.inB x hx)
   · exact .inl (h.inO x hx)
   · exact .inl (h.inBs hq x hx)
   · rcases List.mem_or_eq_of_mem_set hq with hq | rfl
     · exact .inl (h.inOs hq x hx)
     · exact .inr hx
theorem setB {gb n cb:Nat} (h:IdlIs w base i (.slice (some ⟨gb,0,none⟩) n cb) ov bs os F I) (hk1:Keep [] w w1) {k:Nat} {v:Value} {xs:List UInt8} (hv:ORow w1 base v (some xs)) :
 ∃ F',IdlIs (w1.setCell ⟨gb,k,none⟩ v) base i (.slice (some ⟨gb,0,none⟩) n cb) ov (bs.set k (v,xs)) os F' { I with base:=I.base.set k xs }∧Keep [gb] w1 (w1.setCell ⟨gb,k,none⟩ v)∧∀ x∈F',x∈F∨x∈v.ownBlock.toList:=by
 have h1:=h.keep0 hk1
 obtain rfl:n=bs.length:=by obtain ⟨_,_,e,_⟩:=ZB h1.brow;cases e;rfl
 have hk:Keep [gb] w1 (w1.setCell ⟨gb,k,none⟩ v):=(Keep.refl [gb] w1).setCell (p:=⟨gb,k,none⟩) (.inl (by simp)) _
 have hgb:∀ {u:Value} {p:Option (List UInt8)},ORow w1 base u p→∀ g∈u.ownBlock.toList,g∉[gb]:=fun hu g hg hm=>by
  simp at hm;subst hm
  exact row_ne hu h1.brow hg (by simp [Value.ownBlock])
 refine ⟨_,⟨h1.blk.keep hk (fun hm=>h1.iB (by simp at hm;simp [Value.ownBlock,hm])),?_,KA h1.orow hk (fun x hx hm=>?_),fun q hq=>?_,fun q hq=>(h1.odat q hq).keep hk (hgb (h1.odat q hq)),?_,h1.osnd,h1.ne,rfl,h1.base⟩,hk,fun x hx=>?_⟩
 · have:=JQ h1.brow k v
   rw [List.length_set,List.map_set]
   exact this
 · simp at hm;subst hm
   exact h1.ne (by rw [hx];rfl)
 · rcases List.mem_or_eq_of_mem_set hq with hq | rfl
   · exact (h1.bdat q hq).keep hk (hgb (h1.bdat q hq))
   · exact hv.keep hk (hgb hv)
 · rw [List.map_set,h1.bsnd]
 · simp only [List.mem_cons,List.mem_append,List.mem_flatMap] at hx
   rcases hx with hx | hx | hx | ⟨q,hq,hx⟩ | ⟨q,hq,hx⟩
   · exact .inl (by subst hx;exact h.inI)
   · exact .inl (h.inB x hx)
   · exact .inl (h.inO x hx)
   · rcases List.mem_or_eq_of_mem_set hq with hq | rfl
     · exact .inl (h.inBs hq x hx)
     · exact .inr hx
   · exact .inl (h.inOs hq x hx)
theorem setN (h:IdlIs w base i bv ov bs os F I) (ep seq done:Nat) (hb:Blk w1 i 139 #[bv,ov,.int .i64 ep,.int .i64 seq,.int .i64 done]) (hk:Keep [i] w w1):IdlIs w1 base i bv ov bs os F { I with ep:=ep,seq:=seq,done:=done }:=by
 have hr:∀ {u:Value} {p:Option (List UInt8)},ORow w base u p→ORow w1 base u p:=fun hu=>hu.keep hk (fun g hg hm=>by
  simp at hm;subst hm
  rcases hu with ⟨_,rfl⟩ | ⟨xs,_,_,h3⟩
  · simp [Value.ownBlock] at hg
  · exact own_blk_ne h3 h.blk (by decide) (by simpa using hg))
 exact ⟨hb,KA h.brow hk (fun x hx hm=>h.iB (by simp at hm;subst hm;simpa using hx)),KA h.orow hk (fun x hx hm=>h.iO (by simp at hm;subst hm;simpa using hx)),fun q hq=>hr (h.bdat q hq),fun q hq=>hr (h.odat q hq),h.bsnd,h.osnd,h.ne,h.foot,h.base⟩
theorem cells (h:IdlIs w base i bv ov bs os F I):w.cell? ⟨i,0,none⟩=some bv∧w.cell? ⟨i,1,none⟩=some ov∧w.cell? ⟨i,2,none⟩=some (.int .i64 I.ep)∧w.cell? ⟨i,3,none⟩=some (.int .i64 I.seq)∧w.cell? ⟨i,4,none⟩=some (.int .i64 I.done):=
 ⟨by simpa using h.blk.cell 0,by simpa using h.blk.cell 1,by simpa using h.blk.cell 2,by simpa using h.blk.cell 3,by simpa using h.blk.cell 4⟩
end IdlIs
def Qv (I:PIdl) (k b c e n:Nat):Prop:=(k=1∧b<I.base.length∧c=0∧e=0∧n=64)∨(k=2∧1≤c∧b+c≤I.base.length∧e=0∧n=0)∨(k=3∧b=0∧c=0∧e=I.ep+1∧n=0)
theorem Xv (w:World) (base i:Nat) (bv ov:Value) (bs:List (Value×List UInt8)) (os:List (Value×Option (List UInt8))) (F:List Nat) (I:PIdl) (h:IdlIs w base i bv ov bs os F I) (hB:1≤I.base.length∧I.base.length≤64) (hep:I.ep≤1000000) (k b c e n m:Nat) (A:Option Addr) (hf:Qv I k b c e n) :
 Calls Tryz.prog 79 #[.pointer (some ⟨i,0,none⟩),.agg #[.int .i64 k,.int .i64 b,.int .i64 c,.int .i64 e,.slice A n m]] w fun e w'=>e = .returned (.bool true)∧Keep [] w w':=by
 obtain ⟨BA,cb,rfl,_⟩:=ZB h.brow
 have hlen:=h.blen
 obtain ⟨L,hL⟩:∃ L,L=bs.length:=⟨_,rfl⟩
 rw [← hL] at hlen h
 unfold Qv at hf
 rw [← hlen] at hf hB
 have hcl:=fun W (hk:Keep [] w W)=>(h.keep0 hk).cells
 generalize I.ep=ep at *
 clear h hL hlen
 rcases hf with ⟨rfl,h1,rfl,rfl,rfl⟩ | ⟨rfl,h1,h2,rfl,rfl⟩ | ⟨rfl,rfl,rfl,rfl,rfl⟩
 · show Calls Tryz.prog 79 #[.pointer (some ⟨i,0,none⟩),.agg #[.int .i64 1,.int .i64 b,.int .i64 0,.int .i64 0,.slice A 64 m]] w _
   have hkA:Keep [] w (w.alloc (.cells #[.int .i64 1,.int .i64 b,.int .i64 0,.int .i64 0,.slice A 64 m] 46)):=(Keep.refl _ _).alloc _
   have hbO:=Blk.new w 46 #[.int .i64 1,.int .i64 b,.int .i64 0,.int .i64 0,.slice A 64 m]
   obtain ⟨o0,o1,o2,o3,o4⟩:=KE hbO
   obtain ⟨c0,c1,c2,c3,c4⟩:=hcl _ hkA
   clear hcl
   have T1:=fun W=>KC (b:Nat) 0 ((L:Nat)-1) true (by simp;omega) W
   go_enter Tryz.func79,Tryz.ntmps79
   go_wp2_with (refine (T1 _).mono ?_;clear T1;rintro e w' ⟨rfl,rfl⟩)
   go_ret
   exact ⟨rfl,hkA⟩
 · show Calls Tryz.prog 79 #[.pointer (some ⟨i,0,none⟩),.agg #[.int .i64 2,.int .i64 b,.int .i64 c,.int .i64 0,.slice A 0 m]] w _
   have hkA:Keep [] w (w.alloc (.cells #[.int .i64 2,.int .i64 b,.int .i64 c,.int .i64 0,.slice A 0 m] 46)):=(Keep.refl _ _).alloc _
   have hbO:=Blk.new w 46 #[.int .i64 2,.int .i64 b,.int .i64 c,.int .i64 0,.slice A 0 m]
   obtain ⟨o0,o1,o2,o3,o4⟩:=KE hbO
   obtain ⟨c0,c1,c2,c3,c4⟩:=hcl _ hkA
   clear hcl
   have T1:=fun W=>KC (b:Nat) 0 ((L:Nat)-1) true (by simp;omega) W
   have T2:=fun W=>KC (c:Nat) 1 ((L:Nat)-(b:Nat)) true (by simp;omega) W
   go_enter Tryz.func79,Tryz.ntmps79
   go_wp2_with (first
    | ((with_reducible refine (T1 _).mono ?_);clear T1;rintro e w' ⟨rfl,rfl⟩)
    | ((with_reducible refine (T2 _).mono ?_);clear T2;rintro e w' ⟨rfl,rfl⟩))
   go_ret
   exact ⟨rfl,hkA⟩
 · rw [show ((ep+1:Nat):Int)=((ep:Nat):Int)+1 by omega]
   show Calls Tryz.prog 79 #[.pointer (some ⟨i,0,none⟩),.agg #[.int .i64 3,.int .i64 0,.int .i64 0,.int .i64 (((ep:Nat):Int)+1),.slice A 0 m]] w _
   have hkA:Keep [] w (w.alloc (.cells #[.int .i64 3,.int .i64 0,.int .i64 0,.int .i64 (((ep:Nat):Int)+1),.slice A 0 m] 46)):=(Keep.refl _ _).alloc _
   have hbO:=Blk.new w 46 #[.int .i64 3,.int .i64 0,.int .i64 0,.int .i64 (((ep:Nat):Int)+1),.slice A 0 m]
   obtain ⟨o0,o1,o2,o3,o4⟩:=KE hbO
   obtain ⟨c0,c1,c2,c3,c4⟩:=hcl _ hkA
   clear hcl
   have hw:IntKind.i64.wrap (((ep:Nat):Int)+1)=((ep:Nat):Int)+1:=by rw [IntKind.wrap_i64];omega
   go_enter Tryz.func79,Tryz.ntmps79
   go_wp2_with fail
   refine JA (fun w'=>w'.cell? ⟨w.heap.size,1,none⟩=some (.int .i64 0)∧w'.cell? ⟨w.heap.size,2,none⟩=some (.int .i64 0)∧w'.cell? ⟨w.heap.size,3,none⟩=some (.int .i64 (((ep:Nat):Int)+1))∧w'.cell? ⟨w.heap.size,4,none⟩=some (.slice A 0 m)∧w'.cell? ⟨i,2,none⟩=some (.int .i64 ep)) 16 [(0,false),(1,false),(2,false),(3,false),(4,false),(5,false),(6,false),(7,false),(8,false),(9,false),(10,false),(11,false),(12,false),(13,false),(14,false),(15,false)]
    (by kernel_rfl) (by kernel_rfl) (fun _ _ d _ _ h=>by cases d <;> exact h) ⟨o1,o2,o3,o4,c2⟩ ?_
   simp only [PI]
   iterate 16 (refine QB ?_ (by rfl) ?_ ?_;rotate_left;(focus (rintro W ⟨hW1,hW2,hW3,hW4,hW5⟩;go_simp;try with_reducible rfl));simp only [Act.put,PU])
   refine QC ?_
   go_wp2_with fail
   go_ret
   exact ⟨rfl,hkA.drew⟩
theorem Kv (w:World) (base i:Nat) (bv ov:Value) (bs:List (Value×List UInt8)) (os:List (Value×Option (List UInt8))) (F:List Nat) (I:PIdl) (h:IdlIs w base i bv ov bs os F I) (hlen:bs.length=os.length) (h64:bs.length≤64) (b:Nat) (hb:b<bs.length) :
 Calls Tryz.prog 78 #[.pointer (some ⟨i,0,none⟩),.int .i64 (b:Nat)] w fun e w'=>∃ UA uc,e = .returned (.slice UA 64 uc)∧Rd w UA 64 (bys ((I.over.getD b none).getD (I.base.getD b [])))∧64≤uc∧w=w':=by
 obtain ⟨gb,cb,rfl,_,_⟩:=XE h.brow (by omega)
 obtain ⟨go,co,rfl,_,_⟩:=XE h.orow (by omega)
 obtain ⟨c0,c1,c2,c3,c4⟩:=h.cells
 have hcb:w.cell? ⟨gb,b,none⟩=some bs[b].1:=JG h.brow (by rw [List.getElem?_map,List.getElem?_eq_getElem hb];rfl)
 have hco:w.cell? ⟨go,b,none⟩=some (os[b]'(by omega)).1:=JG h.orow (by rw [List.getElem?_map,List.getElem?_eq_getElem (by omega)];rfl)
 have hB:=h.bdat _ (List.getElem_mem hb)
 have hO:=h.odat _ (List.getElem_mem (n:=b) (by omega))
 have hgb:=h.bget hb
 have hgo:=h.oget (k:=b) (by omega)
 have hres:(I.over.getD b none).getD (I.base.getD b [])=(os[b]'(by omega)).2.getD bs[b].2:=by
  rw [List.getD_eq_getElem?_getD,hgo,List.getD_eq_getElem?_getD,hgb];rfl
 rw [hres]
 clear hres hgb hgo
 have hbl:=(own_mem h.brow (g:=gb) (by simp [Value.ownBlock])).2
 have hol:=(own_mem h.orow (g:=go) (by simp [Value.ownBlock])).2
 have T1:=fun W=>KC (b:Nat) 0 ((bs.length:Nat)-1) true (by simp;omega) W
 obtain ⟨L,hL⟩:∃ L,L=bs.length:=⟨_,rfl⟩
 have hLo:os.length=L:=by omega
 rw [hLo] at c1
 rw [← hL] at c0 T1 h64
 have hbL:((b:Nat):Int)<(L:Nat):=by omega
 generalize bs[b]=q1 at *
 generalize os[b]'_=q2 at *
 obtain ⟨v1,x1⟩:=q1
 obtain ⟨v2,x2⟩:=q2
 obtain ⟨g1,u1,rfl,hr1,hl1,hu1⟩:=hB.rd
 clear h hL hLo hlen hb
 rcases x2 with _ | x2
 · obtain rfl:=hO.nil
   have heq:=fun (W:World)=>Lib.run_eql_slice_nil (P:=Tryz.prog) W 40 5 none 0 0 0 0 Tryz.underlying40
   go_enter Tryz.func78,Tryz.ntmps78
   go_wp2_with (refine (T1 _).mono ?_;clear T1;rintro e w' ⟨rfl,rfl⟩)
   go_ret
   exact ⟨_,_,rfl,hr1,hu1,rfl⟩
 · obtain ⟨g2,u2,rfl,hr2,hl2,hu2⟩:=hO.rd
   have heq:=fun (W:World)=>Lib.run_eql_slice_nil (P:=Tryz.prog) W 40 5 (some ⟨g2,0,none⟩) 64 u2 0 0 Tryz.underlying40
   go_enter Tryz.func78,Tryz.ntmps78
   go_wp2_with (refine (T1 _).mono ?_;clear T1;rintro e w' ⟨rfl,rfl⟩)
   go_ret
   exact ⟨_,_,rfl,hr2,hu2,rfl⟩
end
section
open Go.RowKit Go.Shelf
theorem elem8M:ElemN Tryz.prog 40 5 (.int .u8 0) 1 1:=ElemN.of Tryz.underlying40 (by kernel_rfl) rfl (by omega)
def KAl (w:World) (base i:Nat) (F:List Nat) (I:PIdl) (e:Ending) (w':World):Prop:=e = .returned (.bool true)∧∃ F',IdlAt w' base i F' I∧Keep F w w'∧∀ x∈F',x∈F∨w.heap.size≤x
theorem XAN (w:World) (base i:Nat) (F:List Nat) (I:PIdl) (h:IdlAt w base i F I) (hB:1≤I.base.length∧I.base.length≤64) (hlen:I.base.length=I.over.length) (hep:I.ep≤1000000) (hsq:I.seq≤1000000) (k b c e n m:Nat) (A:Option Addr) (xs:List UInt8) (ha:Rd w A n (bys xs)) (hm:n≤m) (hf:Qv I k b c e n) :
 Calls Tryz.prog 31 #[.pointer (some ⟨i,0,none⟩),.agg #[.int .i64 k,.int .i64 b,.int .i64 c,.int .i64 e,.slice A n m]] w (KAl w base i F (I.step ⟨k,b,c,e,xs⟩)):=by
 obtain ⟨bv,ov,bs,os,h⟩:=h
 have hbl:=h.blen
 have hol:=h.olen
 obtain ⟨gb,cb,rfl,_,_⟩:=XE h.brow (by omega)
 obtain ⟨go,co,rfl,_,_⟩:=XE h.orow (by omega)
 have hkA:Keep [] w (w.alloc (.cells #[.int .i64 k,.int .i64 b,.int .i64 c,.int .i64 e,.slice A n m] 46)):=(Keep.refl _ _).alloc _
 have hbO:=Blk.new w 46 #[.int .i64 k,.int .i64 b,.int .i64 c,.int .i64 e,.slice A n m]
 have hMay:=fun W (hk:Keep [] w W)=>Xv W base i _ _ bs os F I (h.keep0 hk) hB hep k b c e n m A hf
 have hxl:xs.length=n:=by simpa using ha.1
 have hib:i≠gb:=fun e=>h.iB (by simp [Value.ownBlock,e])
 have hio:i≠go:=fun e=>h.iO (by simp [Value.ownBlock,e])
 have hbo:gb≠go:=fun e=>h.ne (by simp [Value.ownBlock,e])
 have hge:=fun x hx=>(h.lt x hx)
 have hbw:base≤w.heap.size:=by have:=h.base;have:=h.blk.lt;omega
 have hiF:=h.inI
 have hgbF:gb∈F:=h.inB gb (by simp [Value.ownBlock])
 have hgoF:go∈F:=h.inO go (by simp [Value.ownBlock])
 obtain ⟨o0,o1,o2,o3,o4⟩:=KE hbO
 have HXL:=XC hxl
 have HBL:=XC hbl
 have HOL:=XC hol
 clear hxl hbl hol
 rcases hf with ⟨rfl,h1,rfl,rfl,rfl⟩ | ⟨rfl,h1,h2,rfl,rfl⟩ | ⟨rfl,rfl,rfl,rfl,rfl⟩
 · go_enter Tryz.func31,Tryz.ntmps31
   go_wp2_with (
    (refine (hMay _ hkA).mono ?_)
    clear hMay o0 o1 o2 o3 o4
    rintro e w1 ⟨rfl,hk1⟩
    have hbO1:=hbO.keep0 hk1
    have hkw:=hkA.trans0 hk1
    have h1':=h.keep0 hkw
    obtain ⟨c0,c1,c2,c3,c4⟩:=h1'.cells
    obtain ⟨o0,o1,o2,o3,o4⟩:=KE hbO1)
   have hPa:=Yb A 64 m xs 0 64 w1.drew ((ha.keep hkw).drew) (by omega) (by omega) (by omega) hm (by omega)
   refine JA (fun w'=>w'.cell? ⟨i,1,none⟩=some (.slice (some ⟨go,0,none⟩) os.length co)∧w'.cell? ⟨w.heap.size,1,none⟩=some (.int .i64 b)∧w'.cell? ⟨w.heap.size,4,none⟩=some (.slice A 64 m)) 9 [(0,false),(1,false),(2,false),(3,false),(4,false),(5,false),(6,false),(7,false),(8,true)]
    (by kernel_rfl) (by kernel_rfl) (fun _ _ d _ _ h=>by cases d <;> exact h) ⟨c1,o1,o4⟩ ?_
   simp only [PI]
   iterate 8 (refine QB ?_ (by rfl) ?_ ?_;rotate_left;(focus (rintro W ⟨hW1,hW2,hW3⟩;go_simp;try with_reducible rfl));simp only [Act.put,PU])
   refine VB (by rfl) (fun K hK=>?_)
   go_wp2_with (refine hPa.mono ?_;clear hPa;rintro e w2 ⟨u,rfl,hu,hk2⟩)
   have hkw2:=hkw.drew.trans0 hk2
   obtain ⟨d1,d2,d3,d4,d5⟩:=(h.keep0 hkw2).cells
   obtain ⟨p0,p1,p2,p3,p4⟩:=KE (hbO1.keep0 ((Keep.refl [] w1).drew.trans0 hk2))
   have hbo1:b<os.length:=by rw [ZA HOL];omega
   obtain ⟨UA,uc,rfl,_⟩:=ZB hu
   have hce:w2.cell? ⟨go,b,none⟩=some (os[b]).1:=JG (h.keep0 hkw2).orow (by rw [List.getElem?_map,List.getElem?_eq_getElem hbo1];rfl)
   refine hK _ _ (⟨d2,p1,p4⟩) ?_
   clear hK K
   try simp only [Act.put,PU]
   have hgw1:go≠w.heap.size:=fun e=>by have:=hge go hgoF;omega
   have hgw2:w.heap.size≠go:=fun e=>hgw1 e.symm
   have hoi:go≠i:=fun e=>hio e.symm
   have fz1:=QG (h.keep0 hkw2).orow b
   have fz2:=(h.keep0 hkw2).blk.frozen 3
   have hwq:IntKind.i64.wrap (((I.seq:Nat):Int)+1)=((I.seq:Nat):Int)+1:=by rw [IntKind.wrap_i64];omega
   refine QC ?_
   go_wp2_with fail
   go_ret
   have hov:ORow w2 base (.slice UA 64 uc) (some xs) := .inr ⟨xs,rfl,by simpa using ZA HXL,by
    have:=YC hu (Nat.le_trans hbw (hkw.drew).size)
    simpa [List.take_of_length_le (Nat.le_of_eq (ZA HXL))] using this⟩
   obtain ⟨F2,h2,hk3,hF2⟩:=h.setO hkw2 (k:=b) hov
   have hb3:=h2.blk.set 3 (.int .i64 ((I.seq+1:Nat):Int))
   have hk4:Keep [i] (w2.setCell ⟨go,b,none⟩ (.slice UA 64 uc)) ((w2.setCell ⟨go,b,none⟩ (.slice UA 64 uc)).setCell ⟨i,3,none⟩ (.int .i64 ((I.seq+1:Nat):Int))):=(Keep.refl [i] _).setCell (p:=⟨i,3,none⟩) (.inl (by simp)) _
   have h3:=h2.setN I.ep (I.seq+1) I.done (by simpa using hb3) hk4
   refine ⟨rfl,F2,⟨_,_,_,_,by simpa [PIdl.step] using h3⟩,((((Keep.refl F w).trans0 hkw2).trans hk3 (fun y hy => .inl (by simp at hy;subst hy;exact hgoF))).trans hk4 (fun y hy => .inl (by simp at hy;subst hy;exact hiF))),fun x hx=>?_⟩
   rcases hF2 x hx with hx | hx
   · exact .inl hx
   · exact .inr (Nat.le_trans (hkw.drew).size (Vx hu x hx))
 · have hgw1:go≠w.heap.size:=fun e=>by have:=hge go hgoF;omega
   have hgw2:w.heap.size≠go:=fun e=>hgw1 e.symm
   have hoi:go≠i:=fun e=>hio e.symm
   have hiw:i≠w.heap.size:=fun e=>by have:=hge i hiF;omega
   have hwi:w.heap.size≠i:=fun e=>hiw e.symm
   have hc64:c≤64:=by omega
   have hwq:IntKind.i64.wrap (((I.seq:Nat):Int)+1)=((I.seq:Nat):Int)+1:=by rw [IntKind.wrap_i64];omega
   go_enter Tryz.func31,Tryz.ntmps31
   go_wp2_with (
    (refine (hMay _ hkA).mono ?_)
    clear hMay o0 o1 o2 o3 o4
    rintro e w1 ⟨rfl,hk1⟩
    have hbO1:=hbO.keep0 hk1
    have hkw:=hkA.trans0 hk1
    obtain ⟨o0,o1,o2,o3,o4⟩:=KE hbO1)
   go_loopw [5] (fun iv wr=>∃ (q:Nat) (os':List (Value×Option (List UInt8))) (F':List Nat),q≤c∧iv = .int .i64 (q:Nat)∧IdlIs wr base i (.slice (some ⟨gb,0,none⟩) bs.length cb) (.slice (some ⟨go,0,none⟩) os.length co) bs os' F' { I with over:=QS I.over b q (some zeros64) }∧Keep F w wr∧Blk wr w.heap.size 46 #[.int .i64 2,.int .i64 b,.int .i64 c,.int .i64 0,.slice A 0 m]∧(∀ x∈F',x∈F∨w.heap.size≤x)) (fun iv _=>c-(intOf iv).toNat)
   case atStart=>exact ⟨0,os,F,Nat.zero_le _,rfl,by rw [KAd];exact h.keep0 hkw,(Keep.refl F w).trans0 hkw,hbO1,fun x hx => .inl hx⟩
   case round=>
    clear o0 o1 o2 o3 o4 hbO1 hkw
    obtain ⟨q,os',F',hq,rfl,hI,hkr,hbr,hF⟩:=hrel
    obtain ⟨c0,c1,c2,c3,c4⟩:=hI.cells
    obtain ⟨o0,o1,o2,o3,o4⟩:=KE hbr
    by_cases hlt:q<c
    · have hbq:b+q<os'.length:=by
       have:=hI.olen
       simp only [YR] at this
       have:=ZA HOL
       omega
      go_wp2_with fail
      refine JA (fun w'=>w'.cell? ⟨i,1,none⟩=some (.slice (some ⟨go,0,none⟩) os.length co)∧w'.cell? ⟨w.heap.size,1,none⟩=some (.int .i64 b)) 9 [(0,false),(1,false),(2,false),(3,false),(4,false),(5,false),(6,false),(7,false),(8,true)]
       (by kernel_rfl) (by kernel_rfl) (fun _ _ d _ _ h=>by cases d <;> exact h) ⟨c1,o1⟩ ?_
      simp only [PI]
      iterate 8 (refine QB ?_ (by rfl) ?_ ?_;rotate_left;(focus (rintro W ⟨hW1,hW2⟩;go_simp;try with_reducible rfl));simp only [Act.put,PU])
      refine VB (by rfl) (fun K hK=>?_)
      refine elem8M.wp1_make _ _ rfl .i64 .i64 64 rfl rfl (by omega) (by omega) ?_
      intro w2 g2 hg2 hs2 hb2 hk2
      have hkn:Keep [] wr w2:=(Keep.refl [] wr).drew.trans0 hk2
      obtain ⟨d1,d2,d3,d4,d5⟩:=(hI.keep0 hkn).cells
      obtain ⟨p0,p1,p2,p3,p4⟩:=KE (hbr.keep0 hkn)
      have hol:os.length=os'.length:=by obtain ⟨_,_,e,_⟩:=ZB hI.orow;injection e
      have hrow:=(hI.keep0 hkn).orow
      rw [hol] at hrow
      have hce:w2.cell? ⟨go,b+q,none⟩=some (os'[b+q]).1:=JG hrow (by rw [List.getElem?_map,List.getElem?_eq_getElem hbq];rfl)
      have fz1:=QG hrow (b+q)
      clear hrow
      have hbqo:b+q<os.length:=by omega
      have hwb:IntKind.i64.wrap (((b:Nat):Int)+(q:Nat))=((b:Nat):Int)+(q:Nat):=by rw [IntKind.wrap_i64];omega
      have hwq2:IntKind.i64.wrap (((q:Nat):Int)+1)=((q:Nat):Int)+1:=by rw [IntKind.wrap_i64];omega
      have hnn:(((b:Nat):Int)+(q:Nat)).toNat=b+q:=by omega
      have hz:=ZJ (e:=5) (s:=1) (z := .int .u8 0) (n:=64) (m:=64) (xs:=bys zeros64) (base:=base) hb2 (by omega) (by rw [hg2];exact Nat.le_trans hbw (by simpa using hkr.size)) (by omega) (by simp [bys,by8,zeros64]) rfl
      refine hK _ _ (⟨d2,p1⟩) ?_
      clear hK K
      try simp only [Act.put,PU]
      refine QC ?_
      go_wp2_with fail
      go_roundw
      case rel=>
       have hov:ORow w2 base (.slice (some ⟨wr.heap.size,0,none⟩) 64 64) (some zeros64) := .inr ⟨zeros64,rfl,by simp [zeros64],by simpa [hg2] using hz⟩
       obtain ⟨F2,h2,hk3,hF2⟩:=hI.setO hkn (k:=b+q) hov
       refine ⟨q+1,os'.set (b+q) (.slice (some ⟨wr.heap.size,0,none⟩) 64 64,some zeros64),F2,by omega,by go_num,?_,(hkr.trans0 hkn).trans hk3 (fun y hy => .inl (by simp at hy;subst hy;exact hgoF)),(hbr.keep0 hkn).keep hk3 (by simp;omega),fun x hx=>?_⟩
       · rw [ZAh _ _ _ _ (by have:=ZA HOL;omega)]
         exact h2
       · rcases hF2 x hx with hx | hx
         · exact hF x hx
         · simp [Value.ownBlock] at hx
           subst hx
           exact .inr hkr.size
      case measure=>simp [intOf];omega
    · obtain rfl:q=c:=by omega
      have fz2:=hI.blk.frozen 3
      go_wp2_with fail
      go_ret
      have hb3:=hI.blk.set 3 (.int .i64 ((I.seq+1:Nat):Int))
      have hk4:Keep [i] wr (wr.setCell ⟨i,3,none⟩ (.int .i64 ((I.seq+1:Nat):Int))):=(Keep.refl [i] _).setCell (p:=⟨i,3,none⟩) (.inl (by simp)) _
      have h3:=hI.setN I.ep (I.seq+1) I.done (by simpa using hb3) hk4
      exact ⟨rfl,F',⟨_,_,_,_,by simpa [PIdl.step] using h3⟩,hkr.trans hk4 (fun y hy => .inl (by simp at hy;subst hy;exact hiF)),hF⟩
 · have hgw1:go≠w.heap.size:=fun e=>by have:=hge go hgoF;omega
   have hgw2:w.heap.size≠go:=fun e=>hgw1 e.symm
   have hgv1:gb≠w.heap.size:=fun e=>by have:=hge gb hgbF;omega
   have hgv2:w.heap.size≠gb:=fun e=>hgv1 e.symm
   have hoi:go≠i:=fun e=>hio e.symm
   have hbi:gb≠i:=fun e=>hib e.symm
   have hob:go≠gb:=fun e=>hbo e.symm
   have hiw:i≠w.heap.size:=fun e=>by have:=hge i hiF;omega
   have hwi:w.heap.size≠i:=fun e=>hiw e.symm
   have hwq:IntKind.i64.wrap (((I.seq:Nat):Int)+1)=((I.seq:Nat):Int)+1:=by rw [IntKind.wrap_i64];omega
   obtain ⟨L,hL⟩:∃ L,L=bs.length:=⟨_,rfl⟩
   have hLB:L=I.base.length:=by rw [hL];exact ZA HBL
   have hLO:os.length=L:=by rw [hLB,hlen];exact ZA HOL
   have HL:=XC hL
   have HLB:=XC hLB
   rw [hLO,← hL] at h
   clear hL hLO hLB
   have hL64:L≤64:=by have:=ZA HLB;omega
   go_enter Tryz.func31,Tryz.ntmps31
   go_wp2_with (
    (refine (hMay _ hkA).mono ?_)
    clear hMay o0 o1 o2 o3 o4
    rintro e w1 ⟨rfl,hk1⟩
    have hbO1:=hbO.keep0 hk1
    have hkw:=hkA.trans0 hk1
    obtain ⟨o0,o1,o2,o3,o4⟩:=KE hbO1)
   go_loopw [6] (fun iv wr=>∃ (q:Nat) (bs':List (Value×List UInt8)) (os':List (Value×Option (List UInt8))) (F':List Nat),q≤L∧iv = .int .i64 (q:Nat)∧IdlIs wr base i (.slice (some ⟨gb,0,none⟩) L cb) (.slice (some ⟨go,0,none⟩) L co) bs' os' F' { I with base:=Jf I.base I.over q,over:=JT I.over q }∧Keep F w wr∧Blk wr w.heap.size 46 #[.int .i64 3,.int .i64 0,.int .i64 0,.int .i64 ((I.ep+1:Nat):Int),.slice A 0 m]∧(∀ x∈F',x∈F∨w.heap.size≤x)) (fun iv _=>L-(intOf iv).toNat)
   case atStart=>exact ⟨0,bs,os,F,Nat.zero_le _,rfl,by simpa [Jf,JT] using h.keep0 hkw,(Keep.refl F w).trans0 hkw,hbO1,fun x hx => .inl hx⟩
   case round=>
    clear o0 o1 o2 o3 o4 hbO1 hkw
    obtain ⟨q,bs',os',F',hq,rfl,hI,hkr,hbr,hF⟩:=hrel
    obtain ⟨c0,c1,c2,c3,c4⟩:=hI.cells
    obtain ⟨o0,o1,o2,o3,o4⟩:=KE hbr
    by_cases hlt:q<L
    · have hol:L=os'.length:=by obtain ⟨_,_,e,_⟩:=ZB hI.orow;injection e
      have hbl:L=bs'.length:=by obtain ⟨_,_,e,_⟩:=ZB hI.brow;injection e
      have hq1:q<os'.length:=by omega
      have hbo2:I.base.length=I.over.length:=hlen
      have hqo:q<I.over.length:=by have:=ZA HLB;omega
      have hget:(JT I.over q)[q]? = some os'[q].2:=hI.oget hq1
      have hov:=hI.odat _ (List.getElem_mem hq1)
      have hover:I.over[q]? = some os'[q].2:=by rw [← hget,VS];simp
      have hrow:=hI.orow
      rw [hol] at hrow
      have hco:wr.cell? ⟨go,q,none⟩=some os'[q].1:=JG hrow (by rw [List.getElem?_map,List.getElem?_eq_getElem hq1];rfl)
      clear hrow
      rcases hov with ⟨hn,hv⟩ | ⟨ys,hs,hl,hown⟩
      · rw [hv] at hco
        rw [hn] at hover
        obtain ⟨e1,e2⟩:=KAe hbo2 hqo hover
        have E1:=XC e1
        have E2:=XC e2
        clear e1 e2 hget hn hv hover hol hbl
        go_wp2_with fail
        go_roundw
        case rel=>exact ⟨q+1,bs',os',F',by omega,by go_num,by rw [ZA E1,ZA E2];exact hI,hkr,hbr,hF⟩
        case measure=>simp [intOf];omega
      · obtain ⟨g,cg,hv,_,_⟩:=XE hown (by omega)
        have hgF:g∈F':=hI.inOs (List.getElem_mem hq1) g (by rw [hv];simp [Value.ownBlock])
        rw [hv] at hco hown
        rw [hs] at hover
        obtain ⟨e1,e2⟩:=XAe hbo2 hqo hover
        have hrowb:=hI.brow
        rw [hbl] at hrowb
        have hqb:q<bs'.length:=by omega
        obtain ⟨bq,hcb⟩:∃ u,wr.cell? ⟨gb,q,none⟩=some u:=⟨_,JG hrowb (by rw [List.getElem?_map,List.getElem?_eq_getElem hqb];rfl)⟩
        have fzb:=QG hrowb q
        have fzo:=QG (by have:=hI.orow;rwa [hol] at this) q
        have E1:=XC e1
        have E2:=XC e2
        clear e1 e2 hget hs hv hover hol hbl hrowb
        go_wp2_with fail
        refine JA (fun w'=>w'.cell? ⟨i,0,none⟩=some (.slice (some ⟨gb,0,none⟩) L cb)∧w'.cell? ⟨i,1,none⟩=some (.slice (some ⟨go,0,none⟩) L co)∧w'.cell? ⟨go,q,none⟩=some (.slice (some ⟨g,0,none⟩) 64 cg)) 12 [(0,false),(1,false),(2,false),(3,false),(4,false),(5,false),(6,false),(7,false),(8,false),(9,false),(10,false),(11,false)]
         (by kernel_rfl) (by kernel_rfl) (fun _ _ d _ _ h=>by cases d <;> exact h) ⟨c0,c1,hco⟩ ?_
        simp only [PI]
        iterate 12 (refine QB ?_ (by rfl) ?_ ?_;rotate_left;(focus (rintro W ⟨hW1,hW2,hW3⟩;go_simp;try with_reducible rfl));simp only [Act.put,PU])
        refine QC ?_
        go_wp2_with fail
        go_roundw
        case rel=>
         obtain ⟨F1,hA,hkA',hFA⟩:=hI.setB (Keep.refl [] wr) (k:=q) (.inr ⟨ys,rfl,hl,hown⟩)
         obtain ⟨F2,hB',hkB',hFB⟩:=hA.setO (Keep.refl [] _) (k:=q) (v := .slice none 0 0) (o:=none) (.inl ⟨rfl,rfl⟩)
         refine ⟨q+1,bs'.set q (.slice (some ⟨g,0,none⟩) 64 cg,ys),os'.set q (.slice none 0 0,none),F2,by omega,by go_num,?_,?_,?_,fun x hx=>?_⟩
         · rw [ZA E1,ZA E2]
           exact hB'.keep0 (Keep.refl [] _).drew
         · exact ((hkr.trans hkA' (fun y hy => .inl (by simp at hy;subst hy;exact hgbF))).trans hkB' (fun y hy => .inl (by simp at hy;subst hy;exact hgoF))).drew
         · exact ((hbr.keep hkA' (by simp [hgv2])).keep hkB' (by simp [hgw2])).keep0 (Keep.refl [] _).drew
         · rcases hFB x hx with hx | hx
           · rcases hFA x hx with hx | hx
             · exact hF x hx
             · simp [Value.ownBlock] at hx
               subst hx
               exact hF _ hgF
           · simp [Value.ownBlock] at hx
        case measure=>simp [intOf];omega
    · obtain rfl:q=L:=by omega
      have fz2:=hI.blk.frozen 2
      have fz3:=hI.blk.frozen 3
      have fz4:=hI.blk.frozen 4
      go_wp2_with fail
      go_ret
      have hb3:=((hI.blk.set 2 (.int .i64 ((I.ep+1:Nat):Int))).set 3 (.int .i64 ((I.seq+1:Nat):Int))).set 4 (.int .i64 ((I.seq+1:Nat):Int))
      have hk4:=(((Keep.refl [i] wr).setCell (p:=⟨i,2,none⟩) (.inl (by simp)) (.int .i64 ((I.ep+1:Nat):Int))).setCell (p:=⟨i,3,none⟩) (.inl (by simp)) (.int .i64 ((I.seq+1:Nat):Int))).setCell (p:=⟨i,4,none⟩) (.inl (by simp)) (.int .i64 ((I.seq+1:Nat):Int))
      obtain ⟨e1,e2⟩:=YAl hlen
      have h3:=hI.setN (I.ep+1) (I.seq+1) (I.seq+1) (by simpa using hb3) hk4
      have eq:q=I.over.length:=by have:=ZA HLB;omega
      rw [eq] at h3
      simp only [e1,e2] at h3
      exact ⟨rfl,F',⟨_,_,_,_,by simpa [PIdl.step] using h3⟩,hkr.trans hk4 (fun y hy => .inl (by simp at hy;subst hy;exact hiF)),hF⟩
end
section
open Go.RowKit Go.Shelf
theorem elemRowsM:ElemN Tryz.prog 59 40 (.slice none 0 0) 1 24:=ElemN.of Tryz.underlying59 (by kernel_rfl) rfl (by omega)
theorem YW {w:World} {g:Nat} {t:TypeId} {x0 x1 x2 x3 x4:Value} (h:Blk w g t #[x0,x1,x2,x3,x4]):w.cell? ⟨g,0,none⟩=some x0∧w.cell? ⟨g,1,none⟩=some x1∧w.cell? ⟨g,2,none⟩=some x2∧w.cell? ⟨g,3,none⟩=some x3∧w.cell? ⟨g,4,none⟩=some x4:=
 ⟨by simpa using h.cell 0,by simpa using h.cell 1,by simpa using h.cell 2,by simpa using h.cell 3,by simpa using h.cell 4⟩
theorem YAA (n:Nat) (h0:1≤n) (hn:n≤64) (w:World) :
 Calls Tryz.prog 28 #[.int .i64 (n:Nat)] w fun e w'=>∃ i F,e = .returned (.pointer (some ⟨i,0,none⟩))∧IdlAt w' w.heap.size i F (PIdl.new n)∧Keep [] w w':=by
 have hW:=fun W=>KC (n:Nat) 1 64 true (by simp;omega) W
 go_enter Tryz.func28,Tryz.ntmps28
 go_wp2_with (first
  | (go_at_call 75;refine (hW _).mono ?_;clear hW;rintro e w' ⟨rfl,rfl⟩)
  | (at_make;refine elemRowsM.wp_make rfl _ _ rfl .i64 .i64 n rfl rfl (by omega) (by omega) ?_;intro w1 g1 hg1 hs1 hb1 hk1;subst hg1))
 have hov:w1.ownsRow w.heap.size 40 1 (.slice (some ⟨w.heap.size,0,none⟩) n n) n (List.replicate n (.slice none 0 0)):=ZJ (e:=40) (s:=1) (z := .slice none 0 0) hb1 (by omega) (by omega) (by omega) (by simp) rfl
 have hB:=Blk.new w1 139 #[.slice none 0 0,.slice (some ⟨w.heap.size,0,none⟩) n n,.int .i64 0,.int .i64 0,.int .i64 0]
 have hkA:Keep [] w (w1.alloc (.cells #[.slice none 0 0,.slice (some ⟨w.heap.size,0,none⟩) n n,.int .i64 0,.int .i64 0,.int .i64 0] 139)):=hk1.alloc _
 have hov2:=XD hov (.cells #[.slice none 0 0,.slice (some ⟨w.heap.size,0,none⟩) n n,.int .i64 0,.int .i64 0,.int .i64 0] 139)
 generalize hwA:w1.alloc (.cells #[.slice none 0 0,.slice (some ⟨w.heap.size,0,none⟩) n n,.int .i64 0,.int .i64 0,.int .i64 0] 139)=wA at *
 rw [hs1] at hB
 clear hov hk1 hs1 hb1
 obtain ⟨d,hd⟩:∃ d,d=w.heap.size+1:=⟨_,rfl⟩
 rw [← hd] at hB
 go_wp2_with fail
 try rw [hwA]
 try rw [← hd]
 clear hwA
 have HD:=XC hd
 clear hd
 go_loopw [4] (fun i wr=>∃ (k:Nat) (S:Value) (sv:List Value),k≤n∧i = .int .i64 (k:Nat)∧Blk wr d 139 #[S,.slice (some ⟨w.heap.size,0,none⟩) n n,.int .i64 0,.int .i64 0,.int .i64 0] ∧
  wr.ownsRow w.heap.size 40 1 S k sv∧wr.ownsRow w.heap.size 40 1 (.slice (some ⟨w.heap.size,0,none⟩) n n) n (List.replicate n (.slice none 0 0))∧w.heap.size∉S.ownBlock.toList∧Hid (∀ v∈sv,wr.ownsRow w.heap.size 5 1 v 64 (bys zeros64))∧Keep [] w wr) (fun i _=>n-(intOf i).toNat)
 case atStart=>exact ⟨0,.slice none 0 0,[],Nat.zero_le _,rfl,hB,World.ownsRow_nil _ _ _ _,hov2,by simp [Value.ownBlock],(by show ∀ v∈([]:List Value),_;intro v hv;cases hv),hkA⟩
 case round=>
  clear hB hov2 hkA
  obtain ⟨k,S,sv,hk,rfl,hbr,hsr,hur,hnS,hzr,hkr⟩:=hrel
  obtain ⟨c0,c1,c2,c3,c4⟩:=YW hbr
  by_cases hlt:k<n
  · have hltI:((k:Nat):Int)<(n:Nat):=by omega
    go_wp2_with fail
    refine JA (fun w'=>w'.cell? ⟨d,0,none⟩=some S) 8 [(0,false),(1,false),(2,false),(3,false),(4,false),(5,true),(6,true),(7,true)]
     (by kernel_rfl) (by kernel_rfl) (fun _ _ d _ _ h=>by cases d <;> exact h) c0 ?_
    simp only [PI]
    iterate 5 (refine QB ?_ (by rfl) ?_ ?_;rotate_left;(focus (intro W hW;go_simp;try with_reducible rfl));simp only [Act.put,PU])
    refine VB (by rfl) (fun K hK=>?_)
    refine elem8M.wp1_make _ _ rfl .i64 .i64 64 rfl rfl (by omega) (by omega) ?_
    intro w2 g2 hg2 hs2 hb2 hk2
    obtain rfl:g2=wr.heap.size:=hg2
    clear hs2
    have hkB:Keep [] wr w2:=(Keep.refl _ _).drew.trans0 hk2
    have hz2:w2.ownsRow w.heap.size 5 1 (.slice (some ⟨wr.heap.size,0,none⟩) 64 64) 64 (bys zeros64):=ZJ (e:=5) (s:=1) (z := .int .u8 0) hb2 (by omega) hkr.size (by omega) (by simp [bys,by8,zeros64]) rfl
    refine hK _ _ ((YW (hbr.keep0 hkB)).1) ?_
    clear hK K
    try simp only [Act.put,PU]
    refine VB (by rfl) (fun K hK=>?_)
    go_wp2_with fail
    have hrd:=KO w2 (Value.slice (some ⟨wr.heap.size,0,none⟩) 64 64) 40
    have hkC:Keep [] wr (w2.alloc (.cells #[Value.slice (some ⟨wr.heap.size,0,none⟩) 64 64] 40)):=hkB.alloc _
    have hz3:=XD hz2 (.cells #[Value.slice (some ⟨wr.heap.size,0,none⟩) 64 64] 40)
    generalize w2.alloc (.cells #[Value.slice (some ⟨wr.heap.size,0,none⟩) 64 64] 40)=w3 at *
    generalize w2.heap.size=n4 at *
    refine hK _ _ ((YW (hbr.keep0 hkC)).1) ?_
    clear hK K
    try simp only [Act.put,PU]
    refine VB (by rfl) (fun K hK=>?_)
    refine elemRows.wp1_app (.tmp 21) (.tmp 23) (by rfl) w.heap.size S k sv (by rfl) (XB hsr hkC) (some ⟨n4,0,none⟩) 1 1 [Value.slice (some ⟨wr.heap.size,0,none⟩) 64 64] (by rfl) hrd (by simp [Value.oneCell']) (by omega) (by omega) (Nat.le_trans hkr.size hkC.size) ?_
    intro S' w4 hS' hk4 hSb _
    have hdS:d∉S.ownBlock.toList:=fun hm=>own_blk_ne hsr hbr (by decide) (by simpa using hm)
    have hblk4:=(hbr.keep0 hkC).keep hk4 hdS
    refine hK _ _ ((YW hblk4).1) ?_
    clear hK K
    try simp only [Act.put,PU]
    refine QC ?_
    have f0:=hblk4.frozen 0
    have j0:=(YW hblk4).1
    have hb5:=hblk4.set 0 S'
    have hk5:Keep [d] w4 (w4.setCell ⟨d,0,none⟩ S'):=(Keep.refl _ _).setCell (p:=⟨d,0,none⟩) (.inl (by simp)) _
    have hul:w.heap.size<wr.heap.size:=(own_mem hur (g:=w.heap.size) (by simp [Value.ownBlock])).2
    have hdS':d∉S'.ownBlock.toList:=fun hm=>by
     rcases hSb with e | e
     · rw [e] at hm;exact hdS hm
     · rw [e] at hm;simp at hm;have:=hbr.lt;have:=hkC.size;omega
    have hnS':w.heap.size∉S'.ownBlock.toList:=fun hm=>by
     rcases hSb with e | e
     · rw [e] at hm;exact hnS hm
     · rw [e] at hm;simp at hm;have:=hkC.size;omega
    have hst:∀ {e:TypeId} {s n:Nat} {v:Value} {xs:List Value},w3.ownsRow w.heap.size e s v n xs→e≠40→e≠139→(w4.setCell ⟨d,0,none⟩ S').ownsRow w.heap.size e s v n xs:=fun hv he he2=>
     KA (KA hv hk4 (fun x hx hm=>own_ne hv (XB hsr hkC) he hx (by simpa using hm))) hk5 (fun x hx hm=>by simp at hm;subst hm;exact own_blk_ne hv (hbr.keep0 hkC) he2 hx)
    have hu5:(w4.setCell ⟨d,0,none⟩ S').ownsRow w.heap.size 40 1 (.slice (some ⟨w.heap.size,0,none⟩) n n) n (List.replicate n (.slice none 0 0)):=
     KA (KA (XB hur hkC) hk4 (fun x hx hm=>by simp [Value.ownBlock] at hx;subst hx;exact hnS hm)) hk5 (fun x hx hm=>by simp at hm;subst hm;exact own_blk_ne (XB hur hkC) (hbr.keep0 hkC) (by decide) hx)
    have hz5:=hst hz3 (by decide) (by decide)
    have hzz:Hid (∀ v∈sv,(w4.setCell ⟨d,0,none⟩ S').ownsRow w.heap.size 5 1 v 64 (bys zeros64)):=fun v hv=>hst (XB (ZA hzr v hv) hkC) (by decide) (by decide)
    have hS5:=KA hS' hk5 (fun x hx hm=>by simp at hm;subst hm;exact hdS' (by simpa using hx))
    have hkZ:Keep [] w (w4.setCell ⟨d,0,none⟩ S'):=((hkr.trans0 hkC).trans hk4 (fun x hx => .inr (own_mem hsr hx).1)).trans hk5 (fun x hx => .inr (by simp at hx;have:=ZA HD;omega))
    obtain ⟨SA,sc,rfl,_⟩:=ZB hS'
    go_wp2_with fail
    go_roundw
    case rel=>exact ⟨k+1,_,_,by omega,by go_num,by simpa using hb5,hS5,hu5,hnS',fun v hv=>by
     simp only [List.mem_append,List.mem_singleton] at hv
     rcases hv with hv | rfl
     · exact ZA hzz v hv
     · exact hz5,hkZ⟩
    case measure=>simp [intOf];omega
  · obtain rfl:n=k:=by omega
    go_wp2_with fail
    go_ret
    have hsl:sv.length=n:=by simpa using hsr.1
    refine ⟨d,_,rfl,⟨S,_,sv.map (fun v=>(v,zeros64)),List.replicate n (.slice none 0 0,none),hbr,?_,?_,?_,?_,?_,?_,?_,rfl,?_⟩,hkr⟩
    · simpa [hsl,Function.comp_def] using hsr
    · simpa using hur
    · intro q hq
      obtain ⟨v,hv,rfl⟩:=List.mem_map.1 hq
      exact .inr ⟨zeros64,rfl,by simp [zeros64],ZA hzr v hv⟩
    · intro q hq
      obtain rfl:=List.eq_of_mem_replicate hq
      exact .inl ⟨rfl,rfl⟩
    · simp [PIdl.new,Function.comp_def,hsl,List.map_const']
    · simp [PIdl.new]
    · intro e
      rw [e] at hnS
      exact hnS (by simp [Value.ownBlock])
    · have:=ZA HD;omega
end
end Go.Proofs.YtmoagodllhdemaaGreat
