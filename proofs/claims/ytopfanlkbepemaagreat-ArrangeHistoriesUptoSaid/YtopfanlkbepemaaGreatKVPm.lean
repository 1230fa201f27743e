/- Merged out of my text VPm. -/
import Derived.Test.YtopfanlkbepemaaGreatKVR
namespace Go.VL
theorem Ok.permR {P:Program} {f:FuncId} {args:List V} {bs:List (Nat × B)} {Q Q':V→List (Nat × B)→List Row→Prop} (h:Ok P f args bs Q) (hq:∀ v bs rs,Q v bs rs→∃ bs',bs.Perm bs'∧Q' v bs' rs):Ok P f args bs Q':=by
 intro w I xs hr hH
 refine(h w I xs hr hH).mono fun e w' ⟨x,v,bs',rs',I',he,hv,hk,hh,hn,hQ⟩=>?_
 obtain⟨bs2,hp,hQ'⟩:=hq v bs' rs' hQ
 refine⟨x,v,bs2,rs',I',he,hv,hk,hh.perm hp,fun b hb=>hn b ?_,hQ'⟩
 simp only [blks,List.mem_append] at hb ⊢
 exact hb.imp (fun h=>(hp.map (·.1)).mem_iff.2 h) id
theorem Ok.permL {P:Program} {f:FuncId} {args:List V} {bs bs2:List (Nat × B)} {Q:V→List (Nat × B)→List Row→Prop} (h:Ok P f args bs Q) (hp:bs2.Perm bs):Ok P f args bs2 Q:=by
 intro w I xs hr hH
 have hm:∀ b,b ∈ bs.map (·.1)↔b ∈ bs2.map (·.1):=fun b=>(hp.map (·.1)).mem_iff.symm
 refine(h w I xs hr (hH.perm hp)).mono fun e w' ⟨x,v,bs',rs',I',he,hv,hk,hh,hn,hQ⟩=>?_
 exact⟨x,v,bs',rs',I',he,hv,hk.mono fun b hb=>⟨hb.1,fun hm'=>hb.2 ((hm b).1 hm')⟩,hh,fun b hb hF=>hn b hb ⟨hF.1,fun hm'=>hF.2 ((hm b).1 hm')⟩,hQ⟩
theorem Ok.frame {P:Program} {f:FuncId} {args:List V} {bs:List (Nat × B)} {Q:V→List (Nat × B)→List Row→Prop} (lf:List (Nat × B)) (h:Ok P f args bs Q):Ok P f args (lf++bs) fun v bs' rs=>∃ b1,bs'=lf++b1∧((lf++b1).map (·.1)).Nodup∧Q v b1 rs:=by
 intro w I xs hr hH
 let C:Ctx:={ P:=P,N:=0,F:=fun b=>b < w.heap.size∧b ∉ (lf++bs).map (·.1),w0:=w,I0:=I,M:=[] }
 have hW:ΓW C ⟨fun _=>.any,lf++bs,[]⟩ w I:=⟨hH,fun b hb hF=>hF.2 (by simpa [blks] using hb),Keeps.refl _ _ _,fun b hb=>hb.1⟩
 refine(Ok.apply (C:=C) h hW List.perm_append_comm hr).mono fun e w' ⟨x,v,bs',rs',I',he,hv,hs,hW',hQ⟩=>?_
 have hp:(bs'++lf).Perm (lf++bs'):=List.perm_append_comm
 have hW2:=hW'.heap.perm hp
 rw [List.append_nil] at hW2
 refine⟨x,v,lf++bs',rs',I',he,hv,hW'.keeps,hW2,fun b hb=>hW'.mine b ?_,bs',rfl,(List.nodup_append.1 hW2.nodup).1,hQ⟩
 simp only [blks,List.mem_append,List.append_nil] at hb ⊢
 exact hb.imp (fun h=>(hp.map (·.1)).mem_iff.2 h) id
end Go.VL
