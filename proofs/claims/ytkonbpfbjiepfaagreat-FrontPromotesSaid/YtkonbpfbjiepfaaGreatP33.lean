/- Lemmas of the proof, with their conditions. -/
import Derived.Test.YtkonbpfbjiepfaaGreatP32
namespace Go.Proofs.YtkonbpfbjiepfaaGreat
set_option linter.unusedSimpArgs false
set_option linter.unusedVariables false
set_option maxHeartbeats 1000000
section
open Go.RowKit Go.Shelf
theorem elemBoolE:Elem Tryz.prog 160 4 (.bool false) 1:=Elem.of Tryz.underlying160 (by kernel_rfl) rfl
theorem ZAG (w:World) (base p:Nat) (F:List Nat) (l:List Int) (ds:List Bool) (h:PagedAt w base p F l ds) :
 Calls Tryz.prog 313 #[.pointer (some ⟨p,0,none⟩)] w fun e w'=>e=.returned (.tuple #[])∧PagedAt w' base p F l (List.replicate ds.length false)∧Keep F w w':=by
 obtain⟨L,U,h⟩:=h;obtain⟨g,c,u,uc,rfl,rfl,hgu,hpg,hpu⟩:=h.forms;obtain⟨c0,c1,c2⟩:=h.cells;have hF:=h.foot
 obtain⟨cur,hb,hus,hun,hum,hubs⟩:∃ cur:List Value,Blk w u 4 cur.toArray∧cur.length=uc∧ds.length≤uc∧uc≤9223372036854775807∧base≤u:=by
  rcases h.rd.2 with⟨he,_⟩ | ⟨g',cap,cur,he,hb,hg,hn,hm,hs,ht⟩
  · cases he
  · cases he
    exact⟨cur.toList,hg,by simpa using hs,hn,by simpa [maxLen] using hm,hb⟩
 obtain⟨w',hrun,hb',hk'⟩:=elemBoolE.run_clear w 0 (some ⟨u,0,none⟩) ds.length uc u 0 cur _ hb (fun _=>rfl) (by omega) rfl
 have hres:PagedIs w' base p (.slice (some ⟨g,0,none⟩) l.length c) (.slice (some ⟨u,0,none⟩) ds.length uc) F l (List.replicate ds.length false):=by
  refine⟨h.blk.keep hk' (by simpa using hpu),QB h.rl hk' (fun x hx=>by simp[Value.ownBlock] at hx;subst hx;simpa using hgu),?_,h.foot,h.base,h.pos,h.few,by rw[List.length_replicate];exact h.pages⟩;rw[List.length_replicate];refine Qd hb' hubs hun hum (by simp[splice];omega) ?_;simp[splice,List.take_append_of_le_length]
 have hkk:Keep F w w':=hk'.sub (m:=F) (by rw[hF];simp[Value.ownBlock])
 go_enter Tryz.func313,Tryz.ntmps313
 go_wp2
 go_end0
 exact⟨rfl,⟨_,_,hres⟩,hkk⟩
theorem Jt (w:World) (base p:Nat) (F:List Nat) (l:List Int) (ds:List Bool) (h:PagedAt w base p F l ds) :
 Calls Tryz.prog 394 #[.pointer (some ⟨p,0,none⟩)] w fun e w'=>e=.returned (.int .i64 (ds.length:Nat))∧w=w':=by
 obtain⟨L,U,h⟩:=h;obtain⟨g,c,u,uc,rfl,rfl,_⟩:=h.forms;obtain⟨c0,c1,c2⟩:=h.cells
 go_enter Tryz.func394,Tryz.ntmps394
 go_wp2
 go_ret;exact⟨rfl,rfl⟩
theorem KAs (w:World) (base m:Nat) (F:List Nat) (I:PImage) (h:ImageAt w base m F I) :
 Calls Tryz.prog 242 #[.pointer (some ⟨m,0,none⟩)] w fun e w'=>e=.returned (.tuple #[])∧ImageAt w' base m F ⟨I.bl,List.replicate I.bd.length false,I.ol,List.replicate I.od.length false⟩∧Keep F w w':=by
 obtain⟨p1,p2,F1,F2,h⟩:=h;have hT1:=XL w base m p1 p2 F F1 F2 I h false;have hs1:=h.subB;have hs2:=h.subO;have hC1:=ZAG w base p1 F1 I.bl I.bd h.b;simp only[Bool.false_eq_true,if_false] at hT1
 go_enter Tryz.func242,Tryz.ntmps242
 go_wp2_with (first
  | (go_at_call 119;refine hT1.mono ?_;clear hT1;rintro e w' ⟨rfl,rfl⟩)
  | (go_at_call 313;refine hC1.mono ?_;clear hC1;rintro e w1 ⟨rfl,hp1,hk1⟩;(have h1:=h.setB hp1 hk1 rfl h.ok.2.1);(have hT2:=XL w1 base m p1 p2 F F1 F2 _ h1 true))
  | (go_at_call 119;refine hT2.mono ?_;clear hT2;rintro e w' ⟨rfl,rfl⟩;(have hC2:=ZAG w1 base p2 F2 _ _ h1.o))
  | (go_at_call 313;refine hC2.mono ?_;clear hC2;rintro e w2 ⟨rfl,hp2,hk2⟩))
 go_end0
 exact⟨rfl,⟨_,_,_,_,h1.setO hp2 hk2 rfl h1.ok.2.2⟩,(hk1.sub hs1).trans (hk2.sub hs2) (fun x hx=>.inl hx)⟩
end
end Go.Proofs.YtkonbpfbjiepfaaGreat
