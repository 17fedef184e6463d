import Derived.Test.YtfkcpaahdlkcdaaGreatMSendForeign02
/-! Joined: SrH. -/
namespace Go.Proofs.YtfkcpaahdlkcdaaGreat
end Go.Proofs.YtfkcpaahdlkcdaaGreat
