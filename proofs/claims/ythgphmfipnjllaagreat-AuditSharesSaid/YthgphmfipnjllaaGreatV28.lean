/- Lemmas of the proof, with their conditions. -/
import Derived.Test.YthgphmfipnjllaaGreatV27
namespace Go.Proofs.YthgphmfipnjllaaGreat
set_option linter.unusedSimpArgs false
set_option linter.unusedVariables false
set_option maxHeartbeats 4000000
set_option maxRecDepth 100000
section
open Go.RowKit Go.Shelf
attribute [local go_sem] Oper.semAt_some
structure PRec where
 mount:Nat
 lsn:Nat
 prev:Nat
 items:List PItem
 blocks:List (List UInt8)
structure PRec.May (R:PRec):Prop where
 mount:1≤R.mount∧R.mount≤2147483647
 lsn:1≤R.lsn∧R.lsn≤2147483647
 prev:R.prev≤4294967295
 some:1≤R.items.length
 few:R.items.length≤6
 items:∀ i∈R.items,i.May
 many:R.blocks.length=YE R.items
 full:∀ b∈R.blocks,b.length=64
def PRec.sum (R:PRec):Nat:=JV R.mount R.lsn R.prev R.items R.blocks
def PRec.bytes (R:PRec):List UInt8:=QAU R.mount R.lsn R.prev R.items R.blocks++R.blocks.flatten
theorem JBB (bs:List (List UInt8)) (h:∀ b∈bs,b.length=64):bs.flatten.length=64*bs.length:=by
 induction bs with
 | nil=>rfl
 | cons b bs ih=>rw[List.flatten_cons,List.length_append,h b (by simp),ih (fun x hx=>h x (by simp[hx]))];simp;omega
theorem KAo (bs:List (List UInt8)) (h:∀ b∈bs,b.length=64) (k:Nat) (hk:k<bs.length):seg 64 bs.flatten k=bs[k]:=by
 induction bs generalizing k with
 | nil=>simp at hk
 | cons b bs ih=>
   have hb:=h b (by simp)
   unfold seg at ih ⊢
   cases k with
   | zero=>simp[hb]
   | succ k=>
     rw[List.flatten_cons,show (k+1)*64=b.length+k*64 by omega,List.drop_append,List.drop_eq_nil_of_le (by omega),List.nil_append,Nat.add_sub_cancel_left]
     have:=ih (fun x hx=>h x (by simp[hx])) k (by simpa using hk)
     simpa using this
theorem PRec.May.few6 {R:PRec} (h:R.May):R.blocks.length≤R.items.length:=by
 rw[h.many];exact VH _
theorem PRec.length_bytes {R:PRec} (h:R.May):R.bytes.length=64*(1+R.blocks.length):=by
 unfold PRec.bytes
 rw[List.length_append,JP _ _ _ _ _ h.few,JBB _ h.full];omega
theorem PRec.fields_is {R:PRec} (h:R.May):∃ t,R.bytes=fields (JAH R.mount R.lsn R.prev R.items.length R.blocks.length)++(ZL R.items++t):=by
 refine⟨List.replicate (60-(16+7*R.items.length)) 0++(le 4 (JV R.mount R.lsn R.prev R.items R.blocks)++R.blocks.flatten),?_⟩
 unfold PRec.bytes QAU KP
 rw[length_recH]
 unfold KAT JAH
 simp only[List.append_assoc]
structure RecHold (w:World) (B:Nat) (I Bv:Value) (R:PRec):Prop where
 its:w.ownsRow B 114 4 I R.items.length (R.items.flatMap itc)
 bls:∃ ls:List (Value×List UInt8),ls.map (·.2)=R.blocks∧w.ownsRow B 39 1 Bv ls.length (ls.map (·.1))∧∀ q∈ls,w.ownsRow B 5 1 q.1 64 (bys q.2)
theorem RecHold.keep0 {w w':World} {B:Nat} {I Bv:Value} {R:PRec} (h:RecHold w B I Bv R) (hk:Keep [] w w'):RecHold w' B I Bv R:=by
 obtain⟨h1,ls,h2,h3,h4⟩:=h
 exact⟨ZA h1 hk,ls,h2,ZA h3 hk,fun q hq=>ZA (h4 q hq) hk⟩
structure KDec (w:World) (N0 N7:Nat) (R:PRec) (I:Value) (pre:List Nat) (W:World):Prop where
 size:N7≤W.heap.size
 row:∃ (Bv:Value) (ls:List (Value×List UInt8)),Blk W N0 239 #[.int .i64 R.mount,.int .i64 R.lsn,.int .i64 R.prev,I,Bv]∧ls.map (·.2)=R.blocks.take pre.length∧ls.length=pre.length∧W.ownsRow N7 39 1 Bv ls.length (ls.map (·.1))∧∀ q∈ls,W.ownsRow w.heap.size 5 1 q.1 64 (bys q.2)
 its:W.ownsRow w.heap.size 114 4 I R.items.length (R.items.flatMap itc)
 keep:Keep [] w W
theorem KDec.kept {w A B:World} {N0 N7:Nat} {R:PRec} {I:Value} {pre:List Nat} (h:KDec w N0 N7 R I pre A) (hk:Keep [] A B):KDec w N0 N7 R I pre B:=by
 obtain⟨h0,⟨Bv,ls,h1,h2,h3,h4,h5⟩,h6,h7⟩:=h
 exact⟨Nat.le_trans h0 hk.size,⟨Bv,ls,h1.keep0 hk,h2,h3,ZA h4 hk,fun q hq=>ZA (h5 q hq) hk⟩,ZA h6 hk,h7.trans0 hk⟩
theorem YAc (W:World) (k:Nat) (o:Obj):Keep [k] W (W.putObj k o):=
 ⟨(Keep.refl [] W).os,(Keep.refl [] W).tape,(Keep.refl [] W).output,by rw[World.putObj_size];exact Nat.le_refl _,fun i hi hn=>World.putObj_heap_other (by simp at hn;omega)⟩
theorem YG {W:World} {base n q l:Nat} {e:TypeId} {v:Value} {xs:List Value} {o:Obj} (o':Obj) (h:W.ownsRow base e q v n xs) (hl:W.heap[l]? = some o) (ho:o.isCells=false):(W.putObj l o').ownsRow base e q v n xs:=
 KA h (YAc W l o') (fun g hg hm=>by
  simp at hm
  subst hm
  rcases h.2 with⟨he,_⟩ | ⟨g',cap,cur,he,_,hb,_⟩
  · rw[he] at hg;simp[Value.ownBlock] at hg
  · rw[he] at hg
    simp[Value.ownBlock] at hg
    subst hg
    have hb':W.heap[g']? = _:=hb
    rw[hl] at hb'
    cases hb'
    cases ho)
theorem KDec.turned {w W:World} {N0 N7 l:Nat} {R:PRec} {I:Value} {pre:List Nat} {o o':Obj} (h:KDec w N0 N7 R I pre W) (hl:w.heap.size≤l) (hg:W.heap[l]? = some o) (ho:o.isCells=false):KDec w N0 N7 R I pre (W.putObj l o'):=by
 obtain⟨h0,⟨Bv,ls,h1,h2,h3,h4,h5⟩,h6,h7⟩:=h
 exact⟨by rw[World.putObj_size];exact h0,⟨Bv,ls,JG o' h1 hg ho,h2,h3,YG o' h4 hg ho,fun q hq=>YG o' (h5 q hq) hg ho⟩,YG o' h6 hg ho,h7.putObj hl o'⟩
theorem YAf (g o c:Nat) (R:PRec) (hR:R.May) (w:World) (hg:g<w.heap.size) (ha:Rd w (some ⟨g,o,none⟩) (64*(1+R.blocks.length)) (bys R.bytes)) (hc:64*(1+R.blocks.length)≤c) :
 Calls Tryz.prog 371 #[.slice (some ⟨g,o,none⟩) (64*(1+R.blocks.length)) c] w fun e w'=>∃ I Bv,e=.returned (.tuple #[.agg #[.int .i64 R.mount,.int .i64 R.lsn,.int .i64 R.prev,I,Bv],.int .i64 (R.sum:Nat),.int .i64 0])∧RecHold w' w.heap.size I Bv R∧Keep [] w w':=by
 have hfew:=hR.few6
 have h6:=hR.few
 obtain⟨t,hft⟩:=PRec.fields_is hR
 have hlb:=PRec.length_bytes hR
 obtain⟨m,hm⟩:∃ m,m=R.blocks.length:=⟨_,rfl⟩
 obtain⟨n,hn⟩:∃ n,n=64*(1+m):=⟨_,rfl⟩
 obtain⟨bs,hbs⟩:∃ bs,bs=R.bytes:=⟨_,rfl⟩
 rw[← hm,← hn] at ha hc hlb ⊢
 rw[← hbs] at ha hft hlb
 have hF:=fun W (hk:Keep [] w W)=>callsIn_wide (n:=2).2 (YU (some ⟨g,o,none⟩) n c bs W (ha.keep hk) (by omega))
 have hH:=fun W B r v (h:RowAt W B r v bs 0)=>callsIn_wide (n:=2).2 (KAH W B r v bs (ZL R.items++t) R.mount R.lsn R.prev R.items.length m h (by rw[hft,hm]) hR.some h6 (by omega))
 have hl7:16+7*R.items.length≤bs.length:=by rw[hft];simp[JAH,widths]
 have hit:(bs.drop 16).take (7*R.items.length)=ZL R.items:=by
  rw[hft,List.drop_left' (by simp[JAH,widths]),List.take_left' (by simp)]
 have hT5:=fun W B r v (h:RowAt W B r v bs 16)=>callsIn_wide (n:=2).2 (YN W B r 16 (7*R.items.length) v bs h hl7)
 rw[hit] at hT5
 have hI:=fun W A k c (h:Rd W A k (bys (ZL R.items)))=>callsIn_wide (n:=2).2 (ZAl A k c R.items W h hR.items hR.some h6)
 have hT2:=fun W B r v (h:RowAt W B r v bs 0)=>callsIn_wide (n:=2).2 (YN W B r 0 2 v bs h (by omega))
 have hft':bs=fields ([(1,75),(1,82)]++(4,R.mount) :: [(4,R.lsn),(4,R.prev),(1,R.items.length),(1,R.blocks.length)])++(ZL R.items++t):=hft
 have hG1:=fun W B r v (h:RowAt W B r v bs (0+2))=>callsIn_wide (n:=2).2 (Kz (k:=4) (n:=R.mount) (t:=ZL R.items++t) [(1,75),(1,82)] [(4,R.lsn),(4,R.prev),(1,R.items.length),(1,R.blocks.length)] h (by rw[hft];rfl) (by simp[widths]) (by omega) (by have:=hR.mount;omega))
 have hG2:=fun W B r v (h:RowAt W B r v bs (0+2+4))=>callsIn_wide (n:=2).2 (Kz (k:=4) (n:=R.lsn) (t:=ZL R.items++t) [(1,75),(1,82),(4,R.mount)] [(4,R.prev),(1,R.items.length),(1,R.blocks.length)] h (by rw[hft];rfl) (by simp[widths]) (by omega) (by have:=hR.lsn;omega))
 have hG3:=fun W B r v (h:RowAt W B r v bs (0+2+4+4))=>callsIn_wide (n:=2).2 (Kz (k:=4) (n:=R.prev) (t:=ZL R.items++t) [(1,75),(1,82),(4,R.mount),(4,R.lsn)] [(1,R.items.length),(1,R.blocks.length)] h (by rw[hft];rfl) (by simp[widths]) (by omega) (by have:=hR.prev;omega))
 have HF:=ZB hF
 have HH:=ZB hH
 have HT5:=ZB hT5
 have HI:=ZB hI
 have HT2:=ZB hT2
 have HG1:=ZB hG1
 have HG2:=ZB hG2
 have HG3:=ZB hG3
 have HBS:=ZB hbs
 have HM:=ZB hm
 have HN:=ZB hn
 have HA:=ZB ha
 have HR:=ZB hR
 have hn6:n≤448:=by omega
 have hnI:64*(1+((m:Nat):Int))=(n:Nat):=by omega
 have hm6:m≤6:=by omega
 obtain⟨q,hq⟩:∃ q,q=R.items.length:=⟨_,rfl⟩
 obtain⟨z,hz⟩:∃ z,z=7*q:=⟨_,rfl⟩
 have hw7:IntKind.i64.wrap (7*((q:Nat):Int))=(z:Nat):=by rw[IntKind.wrap_i64];omega
 have h7:7*((q:Nat):Int)=(z:Nat):=by omega
 have HZ:=ZB hz
 have HQ:=ZB hq
 have hq6:q≤6:=by omega
 clear hz hF hH hT5 hI hT2 hG1 hG2 hG3 hbs hm hn ha hft hft' hl7 hit hlb hfew h6 hq hR
 refine(callsIn_wide (n:=3)).1 ?_
 refine callsIn_of_wp_marks Tryz.func371 rfl trivial ?_ rfl
 simp only[Tryz.ntmps371,List.size_toArray,List.length_cons,List.length_nil,Nat.reduceAdd,Nat.reduceSub,Array.replicate_succ,Array.replicate_zero,List.push_toArray,List.append_toArray,List.nil_append,List.cons_append]
 have hb0:=Blk.new w 239 #[.int .i64 0,.int .i64 0,.int .i64 0,.slice none 0 0,.slice none 0 0]
 have k0:Keep [] w (w.alloc (.cells #[.int .i64 0,.int .i64 0,.int .i64 0,.slice none 0 0,.slice none 0 0] 239)):=(Keep.refl _ _).alloc _
 gi_wp2_with (refine⟨trivial,?_⟩;refine(QA HF _ k0).mono ?_;rintro e w1 ⟨r,v,rfl,hR1,hk1⟩)
 have hT:=QA HH _ _ _ _ hR1
 rw[← QA HQ] at hT
 gi_wp2_with (refine⟨trivial,?_⟩;refine hT.mono ?_;clear hT;rintro e w2 ⟨rfl,hR2,hk2⟩)
 have hT:=QA HT5 _ _ _ _ hR2
 rw[← QA HQ,← QA HZ] at hT
 gi_wp2_with (refine⟨trivial,?_⟩;refine hT.mono ?_;clear hT;rintro e w3 ⟨u,rfl,hu,hR3,hk3⟩)
 obtain⟨UA,uc,rfl,_⟩:=QB hu
 have hT:=QA HI w3 UA z uc (Rd.of_own hu)
 rw[← QA HQ] at hT
 have hrw:w.heap.size≤r:=Nat.le_trans k0.size hR1.base
 have kw3:Keep [] w w3:=(((k0.trans0 hk1).trans hk2 (fun x hx=>.inr (by simp at hx;omega))).trans hk3 (fun x hx=>.inr (by simp at hx;omega)))
 have hB3:=KZ hR2 hk3 (KZ hR1 hk2 (hb0.keep0 hk1) (by decide)) (by decide)
 gi_wp2_with (
  refine⟨trivial,?_⟩;refine hT.mono ?_;clear hT;rintro e w4 ⟨g2,gc2,rfl,hIt,hk4⟩
  have hB4:=hB3.keep0 hk4
  obtain⟨x0,x1,x2,x3,x4⟩:=ZC hB4
  have f3:=hB4.frozen 3
  have hlt4:=hB4.lt)
 have hB4':=hB4.set 3 (.slice (some ⟨g2,0,none⟩) q gc2)
 simp only[List.setIfInBounds_toArray,List.set_cons_zero,List.set_cons_succ] at hB4'
 have kw4:Keep [] w (w4.setCell ⟨w.heap.size,3,none⟩ (.slice (some ⟨g2,0,none⟩) q gc2)):=(kw3.trans0 hk4).setCell (p:=⟨w.heap.size,3,none⟩) (.inr (Nat.le_refl _)) _
 have hIt4:=own_set hIt (b:=w.heap.size) (o:=3) (fun hm=>own_blk_ne hIt hB4 (by decide) (by simpa using hm)) (.slice (some ⟨g2,0,none⟩) q gc2)
 clear x0 x1 x2 x3 x4 f3 hlt4 hB3 hb0 hB4 hIt hR1 hR2 hR3 hu
 generalize w4.setCell ⟨w.heap.size,3,none⟩ (.slice (some ⟨g2,0,none⟩) q gc2)=v4 at *
 gi_wp2_with (refine⟨trivial,?_⟩;refine(QA HF _ kw4).mono ?_;rintro e w5 ⟨r2,v2,rfl,hR5,hk5⟩)
 have hT:=QA HT2 _ _ _ _ hR5
 have hrw2:w.heap.size≤r2:=Nat.le_trans kw4.size hR5.base
 have hr2v:v4.heap.size≤r2:=hR5.base
 gi_wp2_with (refine⟨trivial,?_⟩;refine hT.mono ?_;clear hT;rintro e w6 ⟨u6,rfl,-,hR6,hk6⟩)
 have hB6:=KZ hR5 hk6 (hB4'.keep0 hk5) (by decide)
 have kw6:Keep [] w w6:=(kw4.trans0 hk5).trans hk6 (fun x hx=>.inr (by simp at hx;omega))
 have kI6:Keep [r2] v4 w6:=(hk5.zero).trans hk6 (fun x hx=>.inl hx)
 clear hR5 hB4' hk5 hk6
 have hT:=QA HG1 _ _ _ _ hR6
 gi_wp2_with (
  refine⟨trivial,?_⟩;refine hT.mono ?_;clear hT;rintro e w7 ⟨rfl,hRx,hkx⟩
  have hBx:=KZ hR6 hkx hB6 (by decide)
  obtain⟨x0,x1,x2,x3,x4⟩:=ZC hBx
  have fq:=hBx.frozen 0
  have hltx:=hBx.lt)
 have hz:=Vj 0 (.int .i64 (R.mount:Nat)) hRx hBx (by decide) (by decide)
 have hR7:=hz.1
 have hB7:=hz.2.1
 have kw7:=(kw6.trans hkx (fun x hx=>.inr (by simp at hx;omega))).trans hz.2.2 (fun x hx=>.inr (by simp at hx;omega))
 have kI7:Keep [r2,w.heap.size] v4 (w7.setCell ⟨w.heap.size,0,none⟩ (.int .i64 (R.mount:Nat))):=((kI6.sub (by simp)).trans (hkx.sub (m:=[r2,w.heap.size]) (by simp)) (fun x hx=>.inl hx)).trans (hz.2.2.sub (m:=[r2,w.heap.size]) (by simp)) (fun x hx=>.inl hx)
 simp only[List.setIfInBounds_toArray,List.set_cons_zero,List.set_cons_succ] at hB7
 clear x0 x1 x2 x3 x4 fq hltx hz hBx hRx hkx hR6 hB6 kw6 kI6
 generalize w7.setCell ⟨w.heap.size,0,none⟩ (.int .i64 (R.mount:Nat))=v7 at *
 have hT:=QA HG2 _ _ _ _ hR7
 gi_wp2_with (
  refine⟨trivial,?_⟩;refine hT.mono ?_;clear hT;rintro e w8 ⟨rfl,hRx,hkx⟩
  have hBx:=KZ hR7 hkx hB7 (by decide)
  obtain⟨x0,x1,x2,x3,x4⟩:=ZC hBx
  have fq:=hBx.frozen 1
  have hltx:=hBx.lt)
 have hz:=Vj 1 (.int .i64 (R.lsn:Nat)) hRx hBx (by decide) (by decide)
 have hR8:=hz.1
 have hB8:=hz.2.1
 have kw8:=(kw7.trans hkx (fun x hx=>.inr (by simp at hx;omega))).trans hz.2.2 (fun x hx=>.inr (by simp at hx;omega))
 have kI8:Keep [r2,w.heap.size] v4 (w8.setCell ⟨w.heap.size,1,none⟩ (.int .i64 (R.lsn:Nat))):=((kI7.sub (by simp)).trans (hkx.sub (m:=[r2,w.heap.size]) (by simp)) (fun x hx=>.inl hx)).trans (hz.2.2.sub (m:=[r2,w.heap.size]) (by simp)) (fun x hx=>.inl hx)
 simp only[List.setIfInBounds_toArray,List.set_cons_zero,List.set_cons_succ] at hB8
 clear x0 x1 x2 x3 x4 fq hltx hz hBx hRx hkx hR7 hB7 kw7 kI7
 generalize w8.setCell ⟨w.heap.size,1,none⟩ (.int .i64 (R.lsn:Nat))=v8 at *
 obtain⟨v,o2,c2,hvE,hc2,ho2,hvv⟩:∃ v o2 c2,v=Value.slice (some ⟨g,o2,none⟩) (64*m) c2∧64*m≤c2∧(0<m→o2=o+64)∧(c=64∧Value.slice (some ⟨g,o,none⟩) (n-64) 0=v∨¬ c=64∧Value.slice (some ⟨g,o+64,none⟩) (n-64) (c-64)=v):=by
  have hN:=QA HN
  have hn64:n-64=64*m:=by omega
  by_cases hc64:c=64
  · exact⟨_,o,0,rfl,by omega,fun h=>by omega,.inl ⟨hc64,by rw[hn64]⟩⟩
  · exact⟨_,o+64,c-64,rfl,by omega,fun _=>rfl,.inr ⟨hc64,by rw[hn64]⟩⟩
 have HO2:=ZB ho2
 have HC2:=ZB hc2
 have HVE:=ZB hvE
 clear ho2 hc2 hvE
 rcases hvv with⟨hc64,hvX⟩ | ⟨hc64,hvX⟩
 all_goals
  have HVX:=ZB hvX
  clear hvX
  have hT:=QA HG3 _ _ _ _ hR8
  gi_wp2_with (
   refine⟨trivial,?_⟩;refine hT.mono ?_;clear hT;rintro e w9 ⟨rfl,hRx,hkx⟩
   have hBx:=KZ hR8 hkx hB8 (by decide)
   obtain⟨x0,x1,x2,x3,x4⟩:=ZC hBx
   have fq:=hBx.frozen 2
   have hltx:=hBx.lt)
  have hz:=Vj 2 (.int .i64 (R.prev:Nat)) hRx hBx (by decide) (by decide)
  have hR9:=hz.1
  have hB9:=hz.2.1
  have kw9:=(kw8.trans hkx (fun x hx=>.inr (by simp at hx;omega))).trans hz.2.2 (fun x hx=>.inr (by simp at hx;omega))
  have kI9:Keep [r2,w.heap.size] v4 (w9.setCell ⟨w.heap.size,2,none⟩ (.int .i64 (R.prev:Nat))):=((kI8.sub (by simp)).trans (hkx.sub (m:=[r2,w.heap.size]) (by simp)) (fun x hx=>.inl hx)).trans (hz.2.2.sub (m:=[r2,w.heap.size]) (by simp)) (fun x hx=>.inl hx)
  simp only[List.setIfInBounds_toArray,List.set_cons_zero,List.set_cons_succ] at hB9
  clear x0 x1 x2 x3 x4 fq hltx hz hBx hRx hkx hR8 hB8 kw8 kI8
  generalize w9.setCell ⟨w.heap.size,2,none⟩ (.int .i64 (R.prev:Nat))=v9 at *
  have hg2:w3.heap.size≤g2∧g2<v4.heap.size:=own_mem hIt4 (g:=g2) (by simp[Value.ownBlock])
  have hw3s:w.heap.size<w3.heap.size:=by have:=hB9.lt;have h2:=hk1.size;have h3:=hk2.size;have h4:=hk3.size;simp only[World.size_alloc] at h2;omega
  have hIt9:=VC (KA hIt4 kI9 (fun x hx hm=>by
   simp[Value.ownBlock] at hx hm
   omega)) kw3.size
  clear hIt4 kI9 hk1 hk2 hk3 hk4
  rw[QA HVX]
  gi_wp2_with (refine⟨trivial,?_⟩;refine(Kt 2 _ _ (by rw[QA HVE];rfl)).mono ?_;rintro e w' ⟨rfl,rfl⟩)
  obtain⟨w6,hw6⟩:∃ w6,w6=v9.alloc (.cells #[v] 39):=⟨_,rfl⟩
  obtain⟨w7,hw7⟩:∃ w7,w7=w6.alloc (.cells #[.int .i64 64] 3):=⟨_,rfl⟩
  rw[← hw6,← hw7]
  have s6:w6.heap.size=v9.heap.size+1:=by rw[hw6,World.size_alloc]
  have k6:Keep [] v9 w6:=by rw[hw6];exact(Keep.refl _ _).alloc _
  have k7:Keep [] w6 w7:=by rw[hw7];exact(Keep.refl _ _).alloc _
  have k57:Keep [] v9 w7:=k6.trans0 k7
  have kw7:Keep [] w w7:=kw9.trans0 k57
  have c1:Boxed w7 v9.heap.size 39 v:=JA (by rw[hw6];exact Boxed.new v9 _ _) k7 (by simp)
  have c2':Boxed w7 (v9.heap.size+1) 3 (.int .i64 64):=by rw[hw7,show v9.heap.size+1=w6.heap.size by omega];exact Boxed.new w6 _ _
  have hgw7:w7.heap[g]? = w.heap[g]? := kw7.block g hg (by simp)
  have hg7:g<w7.heap.size:=Nat.lt_of_lt_of_le hg kw7.size
  have hseq:=Vf 2 v9.heap.size (v9.heap.size+1) g o2 m c2 w7 (by omega) (QA HC2) (by rw[← QA HVE];exact c1) c2' hg7
  rw[← QA HVE] at hseq
  have hItq:w7.ownsRow w.heap.size 114 4 (.slice (some ⟨g2,0,none⟩) q gc2) R.items.length (R.items.flatMap itc):=by rw[← QA HQ];exact ZA hIt9 k57
  have hB97:=hB9.keep0 k57
  have h0:KDec w w.heap.size w7.heap.size R (.slice (some ⟨g2,0,none⟩) q gc2) [] w7:=⟨Nat.le_refl _,⟨.slice none 0 0,[],hB97,rfl,rfl,World.ownsRow_nil _ _ _ _,by simp⟩,hItq,kw7⟩
  have hsz7:=kw7.size
  have S7:=ZB (show v9.heap.size+2≤w7.heap.size by rw[hw7,World.size_alloc];omega)
  have hv9s:w.heap.size<v9.heap.size:=hB9.lt
  clear s6 k6 k7 k57 c1 c2' hw6 hw7 hB9 kw9 hItq hIt9
  refine Kh (n:=3) (gf:=348) (lb:=#[.pointer (some ⟨v9.heap.size,0,none⟩),.pointer (some ⟨v9.heap.size+1,0,none⟩)]) 11 (fun x=>.slice (some ⟨g,o2+64*x,none⟩) 64 64) rfl (enters_of Tryz.func348 (by kernel_rfl) rfl)
   hseq
   (fun A B C h k=>⟨k.1.trans h.1,fun hb=>k.2.1 (h.2.1 hb),fun hb=>k.2.2 (h.2.2 hb)⟩)
   (fun W l o o' hl hg' ho=>⟨World.putObj_heap_other (by omega),fun hb=>XC o' hb hg' ho,fun hb=>XC o' hb hg' ho⟩)
   (KDec w w.heap.size w7.heap.size R (.slice (some ⟨g2,0,none⟩) q gc2)) (fun s A B h hk=>h.kept hk) (fun s W l o o' h hl hg' ho=>h.turned (by omega) hg' ho)
   (fun pre x W l o o' h hl hg' ho=>⟨h.1,h.2.1,(World.putObj_heap_other (by omega)).trans h.2.2⟩) h0 ?assign ?body ?done
  case assign=>
   rintro l x W K hK
   simp only[List.setIfInBounds_toArray,List.set_cons_zero,List.set_cons_succ,Nat.zero_add] at hK
   gi_wp2
   exact hK
  case body=>
   rintro l pre x W hI ⟨hx,hxq,hgW⟩
   obtain⟨hIsz,⟨Bv,ls,hBW,hls,hll,hBv,hdat⟩,hItW,hkW⟩:=hI
   obtain⟨x0,x1,x2,x3,x4⟩:=ZC hBW
   obtain⟨BA,bc,rfl,_⟩:=QB hBv
   have hgw:W.heap[g]? = w.heap[g]? := hgW.trans hgw7
   have hR:=QA HR
   have hmR:=QA HM
   have hxb:x<R.blocks.length:=by omega
   have hlx:R.blocks[x].length=64:=hR.full _ (List.getElem_mem _)
   have hrd:Rd W (some ⟨g,o2+64*x,none⟩) 64 (bys R.blocks[x]):=by
    refine⟨by simp[hlx],fun _=>⟨g,o2+64*x,rfl,by have:=hkW.size;omega,fun j u hu=>?_⟩⟩
    have hj:j<64:=by have:=(List.getElem?_eq_some_iff.1 hu).1;simpa [hlx] using this
    obtain⟨b',o',he,-,hcell⟩:=(QA HA).2 (by have:=QA HN;omega)
    cases he
    rw[QA HO2 (by omega)]
    have h1:=hcell (64*(1+x)+j) u (by
     rw[QA HBS]
     unfold PRec.bytes
     rw[VY,List.getElem?_append_right (by simp[JP _ _ _ _ _ hR.few];omega)]
     rw[show 64*(1+x)+j-(bys (QAU R.mount R.lsn R.prev R.items R.blocks)).length=64*x+j by simp[JP _ _ _ _ _ hR.few];omega]
     rw[← hu,← KAo _ hR.full x hxb,← Xw,seg_get _ _ _ _ hj,Nat.mul_comm])
    rw[show o+64+64*x+j=o+(64*(1+x)+j) by omega]
    exact(World.cell?_of_block (w:=w) hgw).trans h1
   have hT:=XR (some ⟨g,o2+64*x,none⟩) 64 64 R.blocks[x] W.drew (hrd.drew) (by omega)
   have htk:R.blocks.take (pre.length+1)=R.blocks.take pre.length++[R.blocks[x]]:=by
    rw[List.take_add_one,List.getElem?_eq_getElem (by omega)]
    subst hx;rfl
   obtain⟨xs,hxs⟩:∃ xs,xs=R.blocks[x]:=⟨_,rfl⟩
   rw[← hxs] at hT htk hlx
   have HTK:=ZB htk
   have HLX:=ZB hlx
   have HX:=ZB hx
   have HXQ:=ZB hxq
   have HLS:=ZB hls
   have HLL:=ZB hll
   have HDAT:=ZB hdat
   have hl6:ls.length≤6:=by omega
   clear hx hxq hgW hgw hseq h0 htk hlx hrd hls hll hdat hxs hxb hR hmR hB97
   simp only[List.setIfInBounds_toArray,List.set_cons_zero,List.set_cons_succ]
   gi_wp2
   refine ZI (fun W'=>W'.cell? ⟨w.heap.size,4,none⟩=some (.slice BA ls.length bc)) 5 [[0,1,2],[3],[4]] x4 ?_
   simp only[PI]
   iterate 3 (refine ZH ?_;simp only[Act.put,PU])
   refine XB (by rfl) (fun K hK=>?_)
   go_wp2_with (refine hT.mono ?_;clear hT;rintro e w2 ⟨u,rfl,hu,hk2,_⟩)
   have hkB:Keep [] W w2:=(Keep.refl _ _).drew.trans0 hk2
   obtain⟨UA,uc,rfl,_⟩:=QB hu
   refine hK _ _ ((ZC (hBW.keep0 hkB)).2.2.2.2) ?_
   clear hK K
   try simp only[Act.put,PU]
   refine XB (by rfl) (fun K hK=>?_)
   go_wp2_with fail
   have hrd4:=KO w2 (Value.slice UA 64 uc) 39
   have hkC:Keep [] W (w2.alloc (.cells #[Value.slice UA 64 uc] 39)):=hkB.alloc _
   have hu4:=YD hu (.cells #[Value.slice UA 64 uc] 39)
   refine hK _ _ ((ZC (hBW.keep0 hkC)).2.2.2.2) ?_
   clear hK K
   try simp only[Act.put,PU]
   refine JB ?_
   go_wp2_with (first
    | (at_builtin
       refine elemRows.wp_app rfl (.tmp 75) (.tmp 78) (by rfl) w7.heap.size (.slice BA ls.length bc) ls.length (ls.map (·.1)) (by rfl) (ZA hBv hkC) (some ⟨w2.heap.size,0,none⟩) 1 1 [Value.slice UA 64 uc] (by rfl) hrd4 (by simp[Value.oneCell']) (by omega) (by omega) (Nat.le_trans hIsz hkC.size) ?_
       intro Bv6 w6 hB6 hk6 hbB6 _
       have hBC:=hBW.keep0 hkC
       have hB66:=hBC.keep hk6 (fun hm=>own_blk_ne (ZA hBv hkC) hBC (by decide) (by simpa using hm))
       obtain⟨y0,y1,y2,y3,y4⟩:=ZC hB66
       have f4:=hB66.frozen 4
       obtain⟨VA,vc,rfl,_⟩:=QB hB6))
   have hks:Keep [w.heap.size] w6 (w6.setCell ⟨w.heap.size,4,none⟩ (.slice VA (ls.length+1) vc)):=(Keep.refl _ _).setCell (p:=⟨w.heap.size,4,none⟩) (.inl (by simp)) _
   have hBlt:∀ x∈(Value.slice BA ls.length bc).ownBlock.toList,w7.heap.size≤x:=fun x hx=>(own_mem hBv hx).1
   have hK:Keep (w.heap.size :: (Value.slice BA ls.length bc).ownBlock.toList) W (w6.setCell ⟨w.heap.size,4,none⟩ (.slice VA (ls.length+1) vc)):=(hkC.zero.trans (hk6.sub (fun x hx=>List.mem_cons_of_mem _ hx)) (fun x hx=>.inl hx)).trans (hks.sub (by simp)) (fun x hx=>.inl hx)
   have hnot:∀ b,b<w7.heap.size→b≠w.heap.size→b∉w.heap.size :: (Value.slice BA ls.length bc).ownBlock.toList:=fun b h1 h2 hm=>by
    rcases List.mem_cons.1 hm with h | h
    · exact h2 h
    · have:=hBlt _ h;omega
   have hnew:∀ {b:Nat} {q:Value} {n:Nat} {ys:List Value},(w2.alloc (.cells #[Value.slice UA 64 uc] 39)).ownsRow b 5 1 q n ys→(w6.setCell ⟨w.heap.size,4,none⟩ (.slice VA (ls.length+1) vc)).ownsRow b 5 1 q n ys:=fun hq=>
    have h1:=KA hq hk6 (fun x hx hm=>own_ne hq (ZA hBv hkC) (by decide) hx (by simpa using hm))
    KA h1 hks (fun x hx hm=>by simp at hm;subst hm;exact own_blk_ne h1 hB66 (by decide) hx)
   have hv9:v9.heap.size+2≤w7.heap.size:=by have:=QA S7;omega
   have hB7:=hB66.set 4 (.slice VA (ls.length+1) vc)
   simp only[List.setIfInBounds_toArray,List.set_cons_zero,List.set_cons_succ] at hB7
   have hIt6:=KA (ZA hItW hkC) hk6 (fun x hx hm=>own_ne (ZA hItW hkC) (ZA hBv hkC) (by decide) hx (by simpa using hm))
   refine⟨hK.fromCells ?_ _,⟨hK.block g (by omega) (hnot _ (by omega) (by omega)),fun hb=>JA hb hK (hnot _ (by omega) (by omega)),fun hb=>JA hb hK (hnot _ (by omega) (by omega))⟩,
    ⟨Nat.le_trans hIsz hK.size,⟨_,ls++[(.slice UA 64 uc,xs)],hB7,?_,by simp[QA HLL],?_,fun q hq=>?_⟩,KA hIt6 hks (fun x hx hm=>by simp at hm;subst hm;exact own_blk_ne hIt6 hB66 (by decide) hx),hkW.trans hK (fun x hx=>.inr ?_)⟩⟩
   · intro b hb o' ho'
     rcases List.mem_cons.1 hb with rfl | hb
     · rw[show W.heap[_]? = _ from hBW] at ho';cases ho';rfl
     · exact KK hBv b hb o' ho'
   · rw[List.length_append,List.length_singleton,QA HTK,List.map_append,QA HLS];rfl
   · rw[List.length_append,List.map_append]
     exact own_set hB6 (by intro hm;exact own_blk_ne hB6 hB66 (by decide) (by simpa using hm)) _
   · rcases List.mem_append.1 hq with hq | hq
     · exact hnew (ZA (QA HDAT q hq) hkC)
     · simp at hq;subst hq
       exact hnew (VC hu4 hkW.size)
   · rcases List.mem_cons.1 hx with h | h
     · omega
     · have:=hBlt _ h;omega
  case done=>
   intro D' xs W hD' hS hI hdef
   subst hS
   obtain⟨hIsz,⟨Bv,ls,hBW,hls,hll,hBv,hdat⟩,hItW,hkW⟩:=hI
   rw[List.length_range] at hls hll
   have hR:=QA HR
   have hmR:=QA HM
   rw[hmR,List.take_length] at hls
   have hdc:=hdef
   obtain⟨x0,x1,x2,x3,x4⟩:=ZC hBW
   obtain⟨BA,bc,rfl,_⟩:=QB hBv
   have hmI:ls.length=m:=hll
   have hRws:Rws W BA ls.length ls:=⟨Rd.of_own hBv,fun q hq=>by
    obtain⟨A,c',he,h1,-,-,-⟩:=QB (hdat q hq)
    have h2:=hdat q hq
    rw[he] at h2
    exact⟨A,64,c',he,h1,by omega,Rd.of_own h2⟩⟩
   have hrdI:Rd W (some ⟨g2,0,none⟩) (R.items.length*4) (R.items.flatMap itc):=by
    have h1:=hItW
    rw[QA HQ] at h1
    exact Rd.of_ownN h1
   have h64:∀ p∈ls,p.2.length=64:=fun p hp=>hR.full _ (by rw[← hls];exact List.mem_map_of_mem hp)
   have hE:=callsIn_wide (n:=2).2 (XAb R.mount R.lsn R.prev hR.mount hR.lsn hR.prev g2 R.items.length gc2 R.items BA ls.length bc ls W hrdI rfl hR.items hR.some hR.few hRws h64 (by rw[hmI,hmR,hR.many]))
   rw[hls,List.flatMap_def,hls,← QA HQ] at hE
   have hbsE:QAU R.mount R.lsn R.prev R.items R.blocks++R.blocks.flatten=bs:=(QA HBS).symm
   rw[hbsE,hmI] at hE
   rw[hmI] at x4
   have hlen:bs.length=n:=by simpa using(QA HA).1
   obtain⟨sm,hsm⟩:∃ sm,sm=JV R.mount R.lsn R.prev R.items R.blocks:=⟨_,rfl⟩
   rw[← hsm] at hE
   have HSM:=ZB hsm
   have HLS:=ZB hls
   have HDAT:=ZB hdat
   have HDEF:=ZB hdef
   have hm6':=hm6
   clear hdef hdat hls hR hmR hdc hRws hrdI h64 hbsE hll hmI hsm h0 hseq hlen
   gi_wp2_with (refine⟨trivial,?_⟩;refine hE.mono ?_;clear hE;rintro e W2 ⟨u,rfl,hu,hk2⟩;obtain⟨UA2,uc2,rfl,_⟩:=QB hu)
   have hB2:=hBW.keep0 hk2
   have k2w:Keep [] w W2:=hkW.trans0 hk2
   have hQ:=fun cc=>callsIn_wide (n:=2).2 (JN UA2 (some ⟨g,o,none⟩) bs.length n uc2 cc bs bs W2 (Rd.of_own hu) ((QA HA).keep k2w))
   have hD2:W2.heap[D']? = some (.deferred (some [])):=hk2.heap_same (QA HDEF)
   clear x0 x1 x2 x3 x4
   obtain⟨x0,x1,x2,x3,x4⟩:=ZC hB2
   have f0:=hB2.frozen 0
   have f1:=hB2.frozen 1
   have f2:=hB2.frozen 2
   have f3:=hB2.frozen 3
   have f4:=hB2.frozen 4
   gi_wp2_with (refine⟨trivial,?_⟩;refine(hQ _).mono ?_;clear hQ;rintro e W3 ⟨rfl,rfl⟩;simp only[decide_true])
   have hz:=((((hB2.set 0 (.int .i64 (R.mount:Nat))).set 1 (.int .i64 (R.lsn:Nat))).set 2 (.int .i64 (R.prev:Nat))).set 3 (.slice (some ⟨g2,0,none⟩) q gc2)).set 4 (.slice BA ls.length bc)
   have kz:Keep [w.heap.size] W2 (((((W2.setCell ⟨w.heap.size,0,none⟩ (.int .i64 (R.mount:Nat))).setCell ⟨w.heap.size,1,none⟩ (.int .i64 (R.lsn:Nat))).setCell ⟨w.heap.size,2,none⟩ (.int .i64 (R.prev:Nat))).setCell ⟨w.heap.size,3,none⟩ (.slice (some ⟨g2,0,none⟩) q gc2)).setCell ⟨w.heap.size,4,none⟩ (.slice BA ls.length bc)):=
    (((((Keep.refl _ _).setCell (p:=⟨w.heap.size,0,none⟩) (.inl (by simp)) _).setCell (p:=⟨w.heap.size,1,none⟩) (.inl (by simp)) _).setCell (p:=⟨w.heap.size,2,none⟩) (.inl (by simp)) _).setCell (p:=⟨w.heap.size,3,none⟩) (.inl (by simp)) _).setCell (p:=⟨w.heap.size,4,none⟩) (.inl (by simp)) _
   simp only[List.setIfInBounds_toArray,List.set_cons_zero,List.set_cons_succ] at hz
   generalize (((((W2.setCell ⟨w.heap.size,0,none⟩ (.int .i64 (R.mount:Nat))).setCell ⟨w.heap.size,1,none⟩ (.int .i64 (R.lsn:Nat))).setCell ⟨w.heap.size,2,none⟩ (.int .i64 (R.prev:Nat))).setCell ⟨w.heap.size,3,none⟩ (.slice (some ⟨g2,0,none⟩) q gc2)).setCell ⟨w.heap.size,4,none⟩ (.slice BA ls.length bc))=Wz at *
   have hDz:Wz.heap[D']? = some (.deferred (some [])):=(kz.block D' (Array.getElem?_eq_some_iff.1 hD2).1 (by have:=QA S7;simp;omega)).trans hD2
   refine⟨by simp,.inl ⟨_,_,rfl,run_takeDeferred hDz,?_⟩⟩
   obtain⟨y0,y1,y2,y3,y4⟩:=ZC (JG (.deferred none) hz hDz rfl)
   have hIt2:=ZA hItW hk2
   have hBv2:=ZA hBv hk2
   refine⟨.tuple #[.agg #[.int .i64 (R.mount:Nat),.int .i64 (R.lsn:Nat),.int .i64 (R.prev:Nat),.slice (some ⟨g2,0,none⟩) q gc2,.slice BA ls.length bc],.int .i64 (sm:Nat),.int .i64 0],by simp[results,Tryz.results371,go_sem,y0,y1,y2,y3,y4],_,_,by rw[QA HSM];rfl,⟨YG _ (KA hIt2 kz (fun x hx hm=>by simp at hm;subst hm;exact own_blk_ne hIt2 hB2 (by decide) hx)) hDz rfl,ls,QA HLS,VC (YG _ (KA hBv2 kz (fun x hx hm=>by simp at hm;subst hm;exact own_blk_ne hBv2 hB2 (by decide) hx)) hDz rfl) (Nat.le_trans kw7.size (Nat.le_refl _)),fun p hp=>?_⟩,(k2w.trans kz (fun x hx=>.inr (by simp at hx;omega))).putObj (by omega) _⟩
   have hp2:=ZA (QA HDAT p hp) hk2
   exact YG _ (KA hp2 kz (fun x hx hm=>by simp at hm;subst hm;exact own_blk_ne hp2 hB2 (by decide) hx)) hDz rfl
end
section
open Go.RowKit Go.Shelf
attribute [local go_sem] Oper.semAt_some
def PRec.behind (p:PPos) (R:PRec):PPos:=⟨p.seg,p.off+(1+R.blocks.length),R.lsn+1,R.sum,R.mount⟩
structure LiesR (D:PDisk) (B:Nat) (p:PPos) (R:PRec):Prop where
 may:R.May
 lsn:R.lsn=p.lsn
 prev:R.prev=p.prev
 mount:p.mount≤R.mount
 room:p.off+(1+R.blocks.length)≤24
 bytes:∀ k,k<1+R.blocks.length→Go.Proofs.YthgphmfipnjllaaGreat.seg 64 D.now (YB B p.seg+p.off+k)=Go.Proofs.YthgphmfipnjllaaGreat.seg 64 R.bytes k
structure Elder (D:PDisk) (x n L:Nat) (R:PRec):Prop where
 may:R.May
 lsn:R.lsn<L
 room:1+R.blocks.length≤n
 bytes:∀ k,k<1+R.blocks.length→Go.Proofs.YthgphmfipnjllaaGreat.seg 64 D.now (x+k)=Go.Proofs.YthgphmfipnjllaaGreat.seg 64 R.bytes k
def Stale (D:PDisk) (x n L:Nat):Prop:=Vp (Go.Proofs.YthgphmfipnjllaaGreat.seg 64 D.now x)∨∃ R,Elder D x n L R
theorem Elder.keepD {D D':PDisk} {x n L L':Nat} {R:PRec} (h:Elder D x n L R) (hL:L≤L') (hs:∀ y,x≤y→y<x+n→Go.Proofs.YthgphmfipnjllaaGreat.seg 64 D'.now y=Go.Proofs.YthgphmfipnjllaaGreat.seg 64 D.now y):Elder D' x n L' R:=
 ⟨h.may,Nat.lt_of_lt_of_le h.lsn hL,h.room,fun k hk=>by rw[hs _ (by omega) (by have:=h.room;omega)];exact h.bytes k hk⟩
theorem Stale.keepD {D D':PDisk} {x n L L':Nat} (h:Stale D x n L) (h0:0<n) (hL:L≤L') (hs:∀ y,x≤y→y<x+n→Go.Proofs.YthgphmfipnjllaaGreat.seg 64 D'.now y=Go.Proofs.YthgphmfipnjllaaGreat.seg 64 D.now y):Stale D' x n L':=by
 rcases h with h | ⟨R,h⟩
 · exact .inl (by rw[hs x (Nat.le_refl _) (by omega)];exact h)
 · exact .inr ⟨R,h.keepD hL hs⟩
structure OneSt (w:World) (s d g sg:Nat) (q p:PPos) (W:World):Prop where
 lt:s<w.heap.size
 sc:XI W s d g sg q
 pos:Blk W w.heap.size 72 #[.int .i64 p.seg,.int .i64 p.off,.int .i64 p.lsn,.int .i64 p.prev,.int .i64 p.mount]
 rcd:Blk W (w.heap.size+1) 239 #[.int .i64 0,.int .i64 0,.int .i64 0,.slice none 0 0,.slice none 0 0]
 nxt:Blk W (w.heap.size+1+1) 72 #[.int .i64 0,.int .i64 0,.int .i64 0,.int .i64 0,.int .i64 0]
 keep:Keep [s] w W
namespace OneSt
variable {w W W':World} {s d g sg:Nat} {q p:PPos}
theorem keep0 (h:OneSt w s d g sg q p W) (hk:Keep [] W W'):OneSt w s d g sg q p W':=
 ⟨h.lt,Blk.keep0 h.sc hk,h.pos.keep0 hk,h.rcd.keep0 hk,h.nxt.keep0 hk,h.keep.trans0 hk⟩
theorem keepL {l:List Nat} (h:OneSt w s d g sg q p W) (hk:Keep l W W') (hs:XI W' s d g sg q) (hl:∀ x∈l,x=s∨w.heap.size+1+1<x):OneSt w s d g sg q p W':=by
 have hlt:=h.lt
 exact⟨h.lt,hs,h.pos.keep hk (fun hm=>by have:=hl _ hm;omega),h.rcd.keep hk (fun hm=>by have:=hl _ hm;omega),h.nxt.keep hk (fun hm=>by have:=hl _ hm;omega),
  h.keep.trans hk (fun x hx=>(hl x hx).elim (fun h=>.inl (by simp[h])) (fun h=>.inr (by omega)))⟩
theorem c1 (h:OneSt w s d g sg q p W):W.cell? ⟨s,1,none⟩=some (.pointer (some ⟨g,0,none⟩)):=(cells14 h.sc).2.1
theorem size (h:OneSt w s d g sg q p W):w.heap.size+1+1<W.heap.size:=h.nxt.lt
theorem start (hs:XI w s d g sg q):OneSt w s d g sg q p (((w.alloc (.cells #[.int .i64 p.seg,.int .i64 p.off,.int .i64 p.lsn,.int .i64 p.prev,.int .i64 p.mount] 72)).alloc (.cells #[.int .i64 0,.int .i64 0,.int .i64 0,.slice none 0 0,.slice none 0 0] 239)).alloc (.cells #[.int .i64 0,.int .i64 0,.int .i64 0,.int .i64 0,.int .i64 0] 72)):=by
 have k1:Keep [] w (w.alloc (.cells #[.int .i64 p.seg,.int .i64 p.off,.int .i64 p.lsn,.int .i64 p.prev,.int .i64 p.mount] 72)):=(Keep.refl _ _).alloc _
 have k2:=(Keep.refl [] (w.alloc (.cells #[.int .i64 p.seg,.int .i64 p.off,.int .i64 p.lsn,.int .i64 p.prev,.int .i64 p.mount] 72))).alloc (.cells #[.int .i64 0,.int .i64 0,.int .i64 0,.slice none 0 0,.slice none 0 0] 239)
 have k3:=(Keep.refl [] ((w.alloc (.cells #[.int .i64 p.seg,.int .i64 p.off,.int .i64 p.lsn,.int .i64 p.prev,.int .i64 p.mount] 72)).alloc (.cells #[.int .i64 0,.int .i64 0,.int .i64 0,.slice none 0 0,.slice none 0 0] 239))).alloc (.cells #[.int .i64 0,.int .i64 0,.int .i64 0,.int .i64 0,.int .i64 0] 72)
 refine⟨hs.lt,Blk.keep0 hs ((k1.trans0 k2).trans0 k3),((Blk.new w _ _).keep0 k2).keep0 k3,(Blk.new1 w _ _ _).keep0 k3,?_,((k1.trans0 k2).trans0 k3).zero⟩
 have h3:=Blk.new1 (w.alloc (.cells #[.int .i64 p.seg,.int .i64 p.off,.int .i64 p.lsn,.int .i64 p.prev,.int .i64 p.mount] 72)) (.cells #[.int .i64 0,.int .i64 0,.int .i64 0,.slice none 0 0,.slice none 0 0] 239) 72 #[.int .i64 0,.int .i64 0,.int .i64 0,.int .i64 0,.int .i64 0]
 rwa [World.size_alloc] at h3
end OneSt
theorem RecHold.keepB {w w':World} {N b:Nat} {t:TypeId} {cs:Array Value} {I Bv:Value} {R:PRec} (h:RecHold w N I Bv R) (hb:Blk w b t cs) (h1:114≠t) (h2:39≠t) (h3:5≠t) (hk:Keep [b] w w'):RecHold w' N I Bv R:=by
 obtain⟨hi,ls,hl,hv,hd⟩:=h
 exact⟨KA hi hk (fun x hx hm=>by simp at hm;subst hm;exact own_blk_ne hi hb h1 hx),ls,hl,KA hv hk (fun x hx hm=>by simp at hm;subst hm;exact own_blk_ne hv hb h2 hx),fun q hq=>KA (hd q hq) hk (fun x hx hm=>by simp at hm;subst hm;exact own_blk_ne (hd q hq) hb h3 hx)⟩
theorem RecHold.base {w:World} {N N':Nat} {I Bv:Value} {R:PRec} (h:RecHold w N I Bv R) (hn:N'≤N):RecHold w N' I Bv R:=by
 obtain⟨hi,ls,hl,hv,hd⟩:=h
 exact⟨VC hi hn,ls,hl,VC hv hn,fun q hq=>VC (hd q hq) hn⟩
theorem YAO (w:World) (s d g B base sg:Nat) (q p:PPos) (R:PRec) (F:List Nat) (D:PDisk) (hs:XI w s d g sg q) (hg:GeomAt w g B) (h:DiskAt w base d F D) (hoff:D.off=false) (hn:D.n=198+4*pgs B) (hf:∀ k,k<D.n→D.faults[k]? = some false)
 (hp7:p.seg≤7) (hL:LiesR D B p R) (hsF:s∉F) (hsg:s≠g) :
 Calls Tryz.prog 340 #[.pointer (some ⟨s,0,none⟩),.agg #[.int .i64 p.seg,.int .i64 p.off,.int .i64 p.lsn,.int .i64 p.prev,.int .i64 p.mount]] w fun e w'=>∃ I Bv,e=.returned (.tuple #[.agg #[.int .i64 R.mount,.int .i64 R.lsn,.int .i64 R.prev,I,Bv],
  .agg #[.int .i64 p.seg,.int .i64 (p.off+(1+R.blocks.length):Nat),.int .i64 (R.lsn+1:Nat),.int .i64 R.sum,.int .i64 R.mount],.bool true])∧RecHold w' w.heap.size I Bv R∧XI w' s d g sg q∧Keep [s] w w':=by
 have hsl:=hs.lt
 have hpgs:=(KC hg.pos hg.few).2
 have hC:=fun W (hk:Keep [s] w W)=>ConfigG_is W g B (hg.keep hk (by simpa using fun e=>hsg e.symm))
 have hSg:∀ W,Keep [s] w W→Calls Tryz.prog 40 #[.pointer (some ⟨g,0,none⟩),.int .i64 p.seg] W fun e w'=>e=.returned (.int .i64 ((YB B p.seg:Nat)))∧Keep [] W w':=fun W hk=>VQ W g B (hg.keep hk (by simpa using fun e=>hsg e.symm)) p.seg hp7
 have hR:=fun W (hk:Keep [s] w W) (hS:XI W s d g sg q) k (hkn:k<1+R.blocks.length)=>VW W s d g sg base q F D hS (h.keep hk (fun x hx hm=>by simp at hm;subst hm;exact hsF hx)) hoff (YB B p.seg+p.off+k) (by have:=hL.room;unfold YB;omega) (hf _ (by have:=hL.room;unfold YB;omega))
 have hfd:=fun W=>VF (P:=Tryz.prog) Tryz.underlying27 2 rfl Tryz.isAgg3 #[.int .i64 B,.int .i64 8,.int .i64 24] rfl W
 obtain⟨sgp,off,lsn,prev,mount⟩:=p
 obtain rfl:lsn=R.lsn:=hL.lsn.symm
 obtain rfl:prev=R.prev:=hL.prev.symm
 have hmt:((mount:Nat):Int)≤(R.mount:Nat):=by have:=hL.mount;simp only at this;omega
 have hlp:IntKind.i64.wrap (((R.lsn:Nat):Int)+1)=(R.lsn+1:Nat):=by rw[IntKind.wrap_i64];have:=hL.may.lsn;omega
 obtain⟨a,ha⟩:∃ a,a=YB B sgp+off:=⟨_,rfl⟩
 obtain⟨K,hK⟩:∃ K,K=YB B sgp:=⟨_,rfl⟩
 have ha4:a≤4000:=by rw[ha];unfold YB;have:=hL.room;simp only at *;omega
 have HL:=ZB hL
 obtain⟨m,hm⟩:∃ m,m=R.blocks.length:=⟨_,rfl⟩
 have hm6:m≤6:=by rw[hm];exact Nat.le_trans hL.may.few6 hL.may.few
 have hor:off+(1+m)≤24:=by rw[hm];exact hL.room
 have hlb:=PRec.length_bytes hL.may
 rw[← hm] at hR hlb ⊢
 have HR:=ZB hR
 have HM:=ZB hm
 obtain⟨bs,hbs⟩:∃ bs,bs=R.bytes:=⟨_,rfl⟩
 rw[← hbs] at hlb
 have hb0:∃ t,Go.Proofs.YthgphmfipnjllaaGreat.seg 64 bs 0=fields (JAH R.mount R.lsn R.prev R.items.length m)++t:=by
  obtain⟨t,ht⟩:=PRec.fields_is hL.may
  refine⟨(ZL R.items++t).take 48,?_⟩
  unfold Go.Proofs.YthgphmfipnjllaaGreat.seg
  rw[hbs,ht,← hm,Nat.zero_mul,List.drop_zero,List.take_append]
  have:(fields (JAH R.mount R.lsn R.prev R.items.length m)).length=16:=by simp[JAH,widths]
  rw[this,List.take_of_length_le (by omega)]
 have HB:=ZB hL.bytes
 simp only at HB
 rw[← hm,← hbs] at HB
 have HBS:=ZB hbs
 have hob:((off:Nat):Int)<24:=by omega
 have hKo:IntKind.i64.wrap (((K:Nat):Int)+(off:Nat))=(a:Nat):=by rw[IntKind.wrap_i64];omega
 simp only at hSg
 rw[← hK] at hSg
 have HA:=ZB ha
 have HK:=ZB hK
 have hS:=OneSt.start (p:=⟨sgp,off,R.lsn,R.prev,mount⟩) hs
 clear hL hR ha hK hs hm hbs
 go_enter Tryz.func340,Tryz.ntmps340
 go_wp2_with fail
 generalize (((w.alloc (.cells #[.int .i64 sgp,.int .i64 off,.int .i64 R.lsn,.int .i64 R.prev,.int .i64 mount] 72)).alloc (.cells #[.int .i64 0,.int .i64 0,.int .i64 0,.slice none 0 0,.slice none 0 0] 239)).alloc (.cells #[.int .i64 0,.int .i64 0,.int .i64 0,.int .i64 0,.int .i64 0] 72))=w1 at *
 replace hS:=hS.keep0 (Keep.refl [] w1).drew
 obtain⟨p0,p1,p2,p3,p4⟩:=cells5 hS.pos
 have c1:=hS.c1
 refine ZT (fun W=>W.cell? ⟨s,1,none⟩=some (.pointer (some ⟨g,0,none⟩))∧W.cell? ⟨w.heap.size,1,none⟩=some (.int .i64 off)) 8 [[0,1,2,3,4,5],[6,7]] ⟨c1,p1⟩ ?_
 simp only[PI]
 iterate 6 (refine ZH ?_;simp only[Act.put,PU])
 refine XB (by rfl) (fun K hK=>?_)
 go_wp2_with (refine(hC _ hS.keep).mono ?_;rintro e w2 ⟨rfl,hk2⟩)
 replace hS:=hS.keep0 hk2
 clear p0 p1 p2 p3 p4 c1
 obtain⟨p0,p1,p2,p3,p4⟩:=cells5 hS.pos
 have c1:=hS.c1
 refine hK _ _ (⟨c1,p1⟩) ?_
 clear hK K
 try simp only[Act.put,PU]
 iterate 1 (refine ZH ?_;simp only[Act.put,PU])
 refine JB ?_
 go_wp2_with fail
 replace hS:=hS.keep0 (Keep.refl [] w2).drew
 clear p0 p1 p2 p3 p4 c1 hk2
 obtain⟨p0,p1,p2,p3,p4⟩:=cells5 hS.pos
 have c1:=hS.c1
 refine ZT (fun W=>W.cell? ⟨s,1,none⟩=some (.pointer (some ⟨g,0,none⟩))∧W.cell? ⟨w.heap.size,0,none⟩=some (.int .i64 sgp)∧W.cell? ⟨w.heap.size,1,none⟩=some (.int .i64 off)) 9 [[0,1,2,3,4,5,7,8],[6]] ⟨c1,p0,p1⟩ ?_
 simp only[PI]
 iterate 8 (refine ZH ?_;simp only[Act.put,PU])
 refine XB (by rfl) (fun K hK=>?_)
 go_wp2_with (refine(hSg _ hS.keep).mono ?_;rintro e w4 ⟨rfl,hk4⟩)
 replace hS:=hS.keep0 hk4
 have hsz4:=hS.size
 clear p0 p1 p2 p3 p4 c1
 obtain⟨p0,p1,p2,p3,p4⟩:=cells5 hS.pos
 have c1:=hS.c1
 refine hK _ _ (⟨c1,p0,p1⟩) ?_
 clear hK K
 try simp only[Act.put,PU]
 refine JB ?_
 have hT:=QA HR _ hS.keep hS.sc 0 (by omega)
 simp only[Nat.add_zero] at hT
 rw[← QA HA] at hT
 have hbk:=QA HB 0 (by omega)
 rw[Nat.add_zero,← QA HA] at hbk
 rw[hbk] at hT
 obtain⟨t0,ht0⟩:=hb0
 go_wp2_with (refine hT.mono ?_;clear hT;rintro e w5 ⟨u,rfl,hu,hs5,hk5⟩;obtain⟨UA,uc,rfl,_⟩:=QB hu)
 replace hS:=hS.keepL hk5 hs5 (by simp)
 have hZ:=KAI UA uc _ t0 R.mount R.lsn R.prev R.items.length m w5 (Rd.of_own hu) ht0 (QA HL).may.some (QA HL).may.few (by have:=(QA HL).may.few6;have:=QA HM;omega)
 go_wp2_with (refine hZ.mono ?_;clear hZ;rintro e w6 ⟨rfl,hk6⟩)
 replace hS:=(hS.keep0 hk6).keep0 (Keep.refl [] w6).drew
 have hu6:=ZA (ZA hu hk6) (Keep.refl [] w6).drew
 clear p0 p1 p2 p3 p4 c1
 obtain⟨p0,p1,p2,p3,p4⟩:=cells5 hS.pos
 have c1:=hS.c1
 have hz0:¬ (1+((m:Nat):Int)=0):=by omega
 have hz1:decide (1+((m:Nat):Int)=0)=false:=decide_eq_false hz0
 refine ZT (fun W=>W.cell? ⟨s,1,none⟩=some (.pointer (some ⟨g,0,none⟩))∧W.cell? ⟨w.heap.size,1,none⟩=some (.int .i64 off)) 17 [[0,1,2,3,4,5,6,7,8,9,10,11,12,13,14],[15,16]] ⟨c1,p1⟩ ?_
 simp only[PI]
 iterate 4 (refine ZH ?_;simp only[Act.put,PU])
 refine KM (.bool false) (by rfl) (fun W hW=>by go_simp) ?_
 simp only[Act.put,PU]
 iterate 5 (refine ZH ?_;simp only[Act.put,PU])
 have hw6:IntKind.i64.wrap (((off:Nat):Int)+(1+(m:Nat)))=(off+(1+m):Nat):=by rw[IntKind.wrap_i64];omega
 refine KM (.int .i64 (off+(1+m):Nat)) (by rfl) (fun W hW=>by go_simp) ?_
 simp only[Act.put,PU]
 iterate 4 (refine ZH ?_;simp only[Act.put,PU])
 refine XB (by rfl) (fun K hK=>?_)
 go_wp2_with (refine(hC _ hS.keep).mono ?_;rintro e w7 ⟨rfl,hk7⟩)
 replace hS:=hS.keep0 hk7
 clear p0 p1 p2 p3 p4 c1
 obtain⟨p0,p1,p2,p3,p4⟩:=cells5 hS.pos
 have c1:=hS.c1
 refine hK _ _ (⟨c1,p1⟩) ?_
 clear hK K
 try simp only[Act.put,PU]
 iterate 1 (refine ZH ?_;simp only[Act.put,PU])
 refine JB ?_
 go_wp2_with fail
 have hu7:=VC (base':=w.heap.size+1+1+1) (ZA hu6 hk7) hsz4
 clear p0 p1 p2 p3 p4 c1 hk7 hk6 hk5 hu hu6 hs5 hbk ht0 hk4 hz0 hz1
 have hlm:64*(1+m)=bs.length:=hlb.symm
 have HLM:=ZB hlm
 clear hlm hlb
 have hu7':w7.ownsRow (w.heap.size+1+1+1) 5 1 (.slice UA 64 uc) 64 (bys (bs.take (64*1))):=by
  have:Go.Proofs.YthgphmfipnjllaaGreat.seg 64 bs 0=bs.take (64*1):=by simp[Go.Proofs.YthgphmfipnjllaaGreat.seg]
  rw[← this];exact hu7
 clear hu7
 go_loopw [8,10] (fun b i wr=>∃ (k z:Nat) (UA:Option Addr) (uc:Nat),1≤k∧k≤1+m∧Hid (z=64*k)∧b=.slice UA z uc∧i=.int .i64 k∧wr.ownsRow (w.heap.size+1+1+1) 5 1 (.slice UA z uc) z (bys (bs.take (64*k)))∧OneSt w s d g sg q ⟨sgp,off,R.lsn,R.prev,mount⟩ wr) (fun _ i _=>(1+m)-(intOf i).toNat)
 case atStart=>exact⟨1,64,UA,uc,Nat.le_refl _,by omega,rfl,rfl,rfl,hu7',hS⟩
 case round=>
  clear hu7' hS
  obtain⟨k,z,VA,vc,hk1,hkm,hz,rfl,rfl,hV,hS⟩:=hrel
  by_cases hlt:k<1+m
  · have hltI:((k:Nat):Int)<1+(m:Nat):=by omega
    obtain⟨y,hy⟩:∃ y,y=a+k:=⟨_,rfl⟩
    have hwy:IntKind.i64.wrap (((a:Nat):Int)+(k:Nat))=(y:Nat):=by rw[IntKind.wrap_i64];omega
    have hT:=QA HR wr hS.keep hS.sc k hlt
    have hbk:=QA HB k hlt
    rw[← QA HA,← hy] at hbk hT
    rw[hbk] at hT
    have hz64:z≤448:=by have:=QA hz;omega
    have hsl:(Go.Proofs.YthgphmfipnjllaaGreat.seg 64 bs k).length=64:=length_seg 64 bs k (by have:=QA HLM;omega)
    have htk:bs.take (64*(k+1))=bs.take (64*k)++Go.Proofs.YthgphmfipnjllaaGreat.seg 64 bs k:=by
     unfold Go.Proofs.YthgphmfipnjllaaGreat.seg
     rw[Nat.mul_comm k 64,show 64*(k+1)=64*k+64 by omega,List.take_add]
    have HTK:=ZB htk
    have hZ:=ZB (QA hz)
    clear hy hbk htk hsl hz
    go_wp2_with (first
     | (go_at_call 367
        refine hT.mono ?_
        clear hT
        rintro e w2 ⟨u,rfl,hu,hs2,hk2⟩
        obtain⟨XA,xc,rfl,_⟩:=QB hu
        have hS2:=hS.keepL hk2 hs2 (by simp)
        have hV2:=KA hV hk2 (fun x hx hm=>by simp at hm;subst hm;exact own_blk_ne hV hS.sc (by decide) hx)
        have hsz2:=hS2.size)
     | (at_builtin;refine elem8.wp_app rfl (.tmp 82) (.tmp 83) rfl (w.heap.size+1+1+1) (.slice VA z vc) z _ rfl hV2 XA 64 xc _ rfl (Rd.of_own hu) (fun u hu=>by obtain⟨q,_,rfl⟩:=List.mem_map.1 hu;rfl) (by omega) (by omega) (by omega) ?_;rintro v' w3 hv3 hk3 _ _))
    obtain⟨YA,yc,rfl,_⟩:=QB hv3
    go_roundw
    case rel=>
     have hge:∀ x∈(Value.slice VA z vc).ownBlock.toList,w.heap.size+1+1<x:=fun x hx=>(own_mem hV hx).1
     refine⟨k+1,z+64,YA,yc,by omega,by omega,by have:=QA hZ;simp only[Hid];omega,rfl,by go_num,?_,hS2.keepL hk3 (Blk.keep hS2.sc hk3 (fun hm=>own_blk_ne hV2 hS2.sc (by decide) (by simpa using hm))) (fun x hx=>.inr (hge x hx))⟩
     rw[QA HTK,VY]
     exact hv3
    case measure=>simp[intOf];omega
  · obtain rfl:k=1+m:=by omega
    obtain⟨gv,vc',he,hvc⟩:=ZG hV (by have:=QA hz;omega)
    cases he
    have hzm:=QA hz
    have hml:=QA HM
    have hV2:=hV
    rw[List.take_of_length_le (by rw[← QA HLM];exact Nat.le_refl _),QA HBS,hzm] at hV2
    have hDd:=YAf gv 0 vc R (QA HL).may wr ((VAI hV)) (by rw[← hml];exact Rd.of_own hV2) (by rw[← hml];omega)
    rw[← hml,← hzm] at hDd
    have HZM:=ZB hzm
    clear hzm hV2 hml hz
    go_wp2_with (
     refine hDd.mono ?_
     clear hDd
     rintro e w8 ⟨I,Bv,rfl,hRH,hk8⟩
     obtain⟨IA,ic,rfl,_⟩:=QB hRH.its
     obtain⟨BA,bl,bc,rfl⟩:∃ BA bl bc,Bv=.slice BA bl bc:=by obtain⟨ls,-,h2,-⟩:=hRH.bls;obtain⟨A,c,h,_⟩:=QB h2;exact⟨A,_,c,h⟩
     have hS8:=hS.keep0 hk8
     obtain⟨z0,z1,z2,z3,z4⟩:=ZC hS8.rcd
     obtain⟨p0,p1,p2,p3,p4⟩:=cells5 hS8.pos
     have f0:=hS8.rcd.frozen 0
     have f1:=hS8.rcd.frozen 1
     have f2:=hS8.rcd.frozen 2
     have f3:=hS8.rcd.frozen 3
     have f4:=hS8.rcd.frozen 4)
    obtain⟨hz1,kz1⟩:=KAJ hS8.rcd (.int .i64 (R.mount:Nat)) (.int .i64 (R.lsn:Nat)) (.int .i64 (R.prev:Nat)) (.slice IA R.items.length ic) (.slice BA bl bc)
    have hRH9:=hRH.keepB hS8.rcd (by decide) (by decide) (by decide) kz1
    have hp9:=hS8.pos.keep kz1 (by simp)
    have hn9:=hS8.nxt.keep kz1 (by simp)
    have hs9:=Blk.keep hS8.sc kz1 (by have:=hS8.lt;simp;omega)
    have hk9:=hS8.keep.trans kz1 (fun x hx=>.inr (by simp at hx;omega))
    have hsz8:w.heap.size+1+1<w8.heap.size:=hS8.size
    clear z0 z1 z2 z3 z4 p0 p1 p2 p3 p4 f0 f1 f2 f3 f4 hRH hk8 kz1
    generalize (((((w8.setCell ⟨w.heap.size+1,0,none⟩ (.int .i64 (R.mount:Nat))).setCell ⟨w.heap.size+1,1,none⟩ (.int .i64 (R.lsn:Nat))).setCell ⟨w.heap.size+1,2,none⟩ (.int .i64 (R.prev:Nat))).setCell ⟨w.heap.size+1,3,none⟩ (.slice IA R.items.length ic)).setCell ⟨w.heap.size+1,4,none⟩ (.slice BA bl bc))=w9 at *
    have hd:=(Keep.refl [] w9).drew
    obtain⟨z0,z1,z2,z3,z4⟩:=ZC (hz1.keep0 hd)
    obtain⟨p0,p1,p2,p3,p4⟩:=cells5 (hp9.keep0 hd)
    refine ZT (fun W=>W.cell? ⟨w.heap.size+1,0,none⟩=some (.int .i64 (R.mount:Nat))∧W.cell? ⟨w.heap.size+1,1,none⟩=some (.int .i64 (R.lsn:Nat))∧W.cell? ⟨w.heap.size+1,2,none⟩=some (.int .i64 (R.prev:Nat))∧W.cell? ⟨w.heap.size+1,3,none⟩=some (.slice IA R.items.length ic)∧W.cell? ⟨w.heap.size+1,4,none⟩=some (.slice BA bl bc)∧W.cell? ⟨w.heap.size,0,none⟩=some (.int .i64 (sgp:Nat))∧W.cell? ⟨w.heap.size,1,none⟩=some (.int .i64 (off:Nat))) 15 [[0,1,2,3,4,5,6,7,8,9,10,11,12,13],[14]] ⟨z0,z1,z2,z3,z4,p0,p1⟩ ?_
    simp only[PI]
    iterate 14 (refine ZH ?_;simp only[Act.put,PU])
    refine XB (by rfl) (fun K hK=>?_)
    replace hz1:=hz1.keep0 hd
    replace hRH9:=hRH9.keep0 hd
    replace hp9:=hp9.keep0 hd
    replace hn9:=hn9.keep0 hd
    replace hs9:=Blk.keep0 hs9 hd
    replace hk9:=hk9.trans0 hd
    clear hd
    generalize w9.drew=wa at *
    have hltr:=hz1.lt
    have f0:=hz1.frozen 0
    have f1:=hz1.frozen 1
    have f2:=hz1.frozen 2
    have f3:=hz1.frozen 3
    have f4:=hz1.frozen 4
    go_wp2_with fail
    obtain⟨hz2,kz2⟩:=KAJ hz1 (.int .i64 (R.mount:Nat)) (.int .i64 (R.lsn:Nat)) (.int .i64 (R.prev:Nat)) (.slice IA R.items.length ic) (.slice BA bl bc)
    have hRHb:=hRH9.keepB hz1 (by decide) (by decide) (by decide) kz2
    have hpb:=hp9.keep kz2 (by simp)
    have hnb:=hn9.keep kz2 (by simp)
    have hsb:=Blk.keep hs9 kz2 (by have:=hsl;simp;omega)
    have hkb:=hk9.trans kz2 (fun x hx=>.inr (by simp at hx;omega))
    clear z0 z1 z2 z3 z4 p0 p1 p2 p3 p4 f0 f1 f2 f3 f4
    obtain⟨z0,z1,z2,z3,z4⟩:=ZC hz2
    obtain⟨p0,p1,p2,p3,p4⟩:=cells5 hpb
    refine hK _ _ (⟨z0,z1,z2,z3,z4,p0,p1⟩) ?_
    clear hK K
    try simp only[Act.put,PU]
    refine JB ?_
    clear kz2 hz1 hp9 hn9 hs9 hk9 hRH9 hltr
    generalize (((((wa.setCell ⟨w.heap.size+1,0,none⟩ (.int .i64 (R.mount:Nat))).setCell ⟨w.heap.size+1,1,none⟩ (.int .i64 (R.lsn:Nat))).setCell ⟨w.heap.size+1,2,none⟩ (.int .i64 (R.prev:Nat))).setCell ⟨w.heap.size+1,3,none⟩ (.slice IA R.items.length ic)).setCell ⟨w.heap.size+1,4,none⟩ (.slice BA bl bc))=wb at *
    have f0:=hnb.frozen 0
    have f1:=hnb.frozen 1
    have f2:=hnb.frozen 2
    have f3:=hnb.frozen 3
    have f4:=hnb.frozen 4
    have hltn:=hnb.lt
    obtain⟨n0,n1,n2,n3,n4⟩:=cells5 hnb
    go_wp2_with fail
    obtain⟨hn3,kn3⟩:=KAJ hnb (.int .i64 (sgp:Nat)) (.int .i64 ((off:Nat)+(1+(m:Nat)))) (.int .i64 ((R.lsn:Nat)+1)) (.int .i64 (R.sum:Nat)) (.int .i64 (R.mount:Nat))
    obtain⟨y0,y1,y2,y3,y4⟩:=cells5 hn3
    obtain⟨x0,x1,x2,x3,x4⟩:=ZC (hz2.keep kn3 (by simp))
    refine bodyPost_ret (v:=.tuple #[.agg #[.int .i64 (R.mount:Nat),.int .i64 (R.lsn:Nat),.int .i64 (R.prev:Nat),.slice IA R.items.length ic,.slice BA bl bc],.agg #[.int .i64 sgp,.int .i64 ((off:Nat)+(1+(m:Nat))),.int .i64 ((R.lsn:Nat)+1),.int .i64 R.sum,.int .i64 R.mount],.bool true])
     (by simp[results,Tryz.results340,go_sem,x0,x1,x2,x3,x4,y0,y1,y2,y3,y4]) rfl ⟨_,_,by push_cast;rfl,(hRHb.keepB hnb (by decide) (by decide) (by decide) kn3).base ?_,Blk.keep hsb kn3 (by have:=hsl;simp;omega),hkb.trans kn3 (fun x hx=>.inr (by simp at hx;omega))⟩
    have:=hS.size;omega
end
end Go.Proofs.YthgphmfipnjllaaGreat
