/- The statement's own check, by running it. No condition. -/
import Derived.Test.YtmafjpdiplfcmaaGreatM
namespace Go.Proofs.YtmafjpdiplfcmaaGreat
namespace Fw
theorem Db:l8=some true:=by decide +kernel
end Fw
end Go.Proofs.YtmafjpdiplfcmaaGreat
